import Derived.Test.YtocdpimpkifdmaaDoorProg
import Derived.Test.YtocdpimpkifdmaaDoorFwShort
import Derived.Test.YtocdpimpkifdmaaDoorFwOpen
import Derived.Test.YtocdpimpkifdmaaDoorDoor
import Derived.Test.YtocdpimpkifdmaaDoorG0
namespace Go.Proofs.YtocdpimpkifdmaaDoor.G
open Go Go.Fw Go.RowKit Go.Proofs
set_option linter.unusedVariables false
set_option linter.unusedSimpArgs false

/-! ### confidant/confidantlaw23.known: function 11 -/
def confidantlaw23_known.f (K : Nat)  : Option Bool := b1 (trace_New.f K) fun (d8 : List S28) => (lt ([(⟨3, 0, 1, 1, 65536, 0, 0⟩ : S28), (⟨0, 2, 10, 0, 0, (-1), 0⟩ : S28)] : List S28) fun a8 => (b1 (trace_Trace_Add.f K d8 a8) fun (i7 : List S28) => (b2 (trace_Trace_All.f K i7) fun (a5 : List S28) (a9 : List S28) => (b1 (trace_Put.f K a9) fun (b3 : List Int) => (b2 (trace_Read.f K b3) fun (a0 : List S28) (b9 : Int) => (b2 (trace_Trace_All_18.f K a5) fun (c2 : List S28) (c0 : List S28) => (if (c0.length : Int) = 2 then (if b9 = 0 then (if (a0.length : Int) = 2 then (if (0 : Int) < (a0.length : Int) then (if ((((a0.getD (0 : Int).toNat zS28).f0) == (3 : Int)) && ((((a0.getD (0 : Int).toNat zS28).f1) == (0 : Int)) && ((((a0.getD (0 : Int).toNat zS28).f2) == (1 : Int)) && ((((a0.getD (0 : Int).toNat zS28).f3) == (1 : Int)) && ((((a0.getD (0 : Int).toNat zS28).f4) == (65536 : Int)) && ((((a0.getD (0 : Int).toNat zS28).f5) == (0 : Int)) && ((((a0.getD (0 : Int).toNat zS28).f6) == (0 : Int)) && true))))))) = true then (b1 (trace_Text.f K (⟨3, 0, 1, 1, 65536, 0, 0⟩ : S28)) fun (c5 : ByteArray) => (if (c5.toList == (⟨#[51, 32, 48, 32, 116, 97, 107, 101, 32, 49, 32, 54, 53, 53, 51, 54, 32, 48, 32, 48]⟩ : ByteArray).toList) = true then (lt ([2] : List Int) fun c1 => (b1 (trace_Of.f K a0 c1) fun (c3 : List S28) => (if (c3.length : Int) = 1 then (lt ([1] : List Int) fun c7 => (b1 (trace_Kinds.f K a0 c7) fun (d1 : List S28) => (if (d1.length : Int) = 1 then (b1 (trace_Right.f K (⟨3, 0, 1, 1, 65536, 0, 0⟩ : S28)) fun (d5 : Bool) => (if d5 = true then (b1 (trace_Right.f K zS28) fun (f8 : Bool) => (some (!(f8)))) else (some false))) else (some false)))) else (some false)))) else (some false))) else (some false)) else none) else (some false)) else (some false)) else (some false))))))))
set_option maxRecDepth 100000 in
theorem confidantlaw23_known.calls {K : Nat} {i8 : Bool} {B w : World} {os : List Ass} {rs : List Ro} (H : confidantlaw23_known.f K = some i8) (hS : St B w (os) (rs)) (gB : Glob B) :
  Calls Tryd.prog 11 [].toArray w (fun en w' => ∃ v, en = .returned v ∧ v = .bool (i8) ∧ St B w' (os) (rs)) := by
 unfold confidantlaw23_known.f at H
 refine calls_of_EW (args := []) (c := Cd11) 69 Tryd.func11 (by kernel_rfl) (by kernel_rfl) (by kernel_rfl) ?_
 refine EW.sq (by kernel_rfl) ?_
 refine EW.rg (by kernel_rfl) ?_
 refine EL.quick 1 [] [] (by kernel_rfl) ?_
 refine EL.done (by kernel_rfl) ?_
 refine EQ.code ?_
 refine EW.sq (by kernel_rfl) ?_
 refine EW.rg (by kernel_rfl) ?_
 obtain ⟨d8, j7, H⟩ := b1_out H
 have hq := trace_New.calls j7 hS
 refine EL.of (EO.callD 13 [] _ 5 (by kernel_rfl) (by kernel_rfl) (by kernel_rfl) hq ?_)
 rintro v w ⟨a4, e1, e5, rfl, hS⟩
 refine EL.quick 1 [1] [(1, pt a4 0)] (by kernel_rfl) ?_
 refine EL.done (by kernel_rfl) ?_
 refine EQ.code ?_
 refine EW.sq (by kernel_rfl) ?_
 refine EW.sq (by kernel_rfl) ?_
 refine EW.rg (by kernel_rfl) ?_
 refine EL.quick 2 [1, 7] [(1, pt a4 0), (7, .bool (false))] (by kernel_rfl) ?_
 refine EL.done (by kernel_rfl) ?_
 refine EQ.code ?_
 refine EW.cdF (by kernel_rfl) (by kernel_rfl) ?_
 refine EW.skip (by kernel_rfl) ?_
 refine EQ.code ?_
 refine EW.sq (by kernel_rfl) ?_
 refine EW.rg (by kernel_rfl) ?_
 refine EL.quick 1 [1, 8] [(1, pt a4 0), (8, ag [ia 3, ia 0, ia 1, ia 1, ib 65536, ib 0, ib 0])] (by kernel_rfl) ?_
 refine EL.of (EO.alloc hS 28 (ag (encS28 zS28)) (encS28 zS28) 2 (by kernel_rfl) (by kernel_rfl) (by kernel_rfl) (by kernel_rfl) (by first | rfl | kernel_rfl) ?_)
 intro a2 w hS
 refine EL.of (EO.storeBox (os' := Ass.box 28 a2 [ia 3, ia 0, ia 1, ia 1, ib 65536, ib 0, ib 0] :: Ass.box 75 a4 [sv e1 e5 d8] :: Ass.own 28 kS28 e1 e5 d8 :: os) hS 0 rfl 28 0 (ag [ia 3, ia 0, ia 1, ia 1, ib 65536, ib 0, ib 0]) [ia 3, ia 0, ia 1, ia 1, ib 65536, ib 0, ib 0] (by kernel_rfl) (by kernel_rfl) (by kernel_rfl) (by kernel_rfl) (by kernel_rfl) (by kernel_rfl) rfl rfl ?_)
 intro w hS
 refine EL.done (by kernel_rfl) ?_
 refine EQ.code ?_
 refine EW.sq (by kernel_rfl) ?_
 refine EW.rg (by kernel_rfl) ?_
 refine EL.quick 1 [1, 2, 9] [(1, pt a4 0), (2, pt a2 0), (9, pt a4 0)] (by kernel_rfl) ?_
 refine EL.of (EO.Y (YO.loadBox hS 0 rfl 28 0 7 (ag [ia 3, ia 0, ia 1, ia 1, ib 65536, ib 0, ib 0]) 10 (by kernel_rfl) (by kernel_rfl) (by kernel_rfl) (by kernel_rfl)) ?_)
 refine EL.quick 1 [1, 2, 9, 10, 11] [(1, pt a4 0), (2, pt a2 0), (9, pt a4 0), (10, ag [ia 3, ia 0, ia 1, ia 1, ib 65536, ib 0, ib 0]), (11, ag [ia 0, ia 2, ia 10, ia 0, ib 0, ib (-1), ib 0])] (by kernel_rfl) ?_
 obtain ⟨a8, i6, H⟩ := lt_out H
 refine EL.of (EO.lit hS kS28 28 22 2 #[(0, ag [ia 3, ia 0, ia 1, ia 1, ib 65536, ib 0, ib 0]), (1, ag [ia 0, ia 2, ia 10, ia 0, ib 0, ib (-1), ib 0])] [ia 3, ia 0, ia 1, ia 1, ib 65536, ib 0, ib 0, ia 0, ia 2, ia 10, ia 0, ib 0, ib (-1), ib 0] a8 12 (by kernel_rfl) (by kernel_rfl) (by kernel_rfl) (fun _ => (by kernel_rfl)) (by rw [i6]; rfl) (by kernel_rfl) (fun w G hr => (by rw [i6]; exact ⟨[ia 3, ia 0, ia 1, ia 1, ib 65536, ib 0, ib 0], [ia 0, ia 2, ia 10, ia 0, ib 0, ib (-1), ib 0], rfl, ⟨[ia 3], [ia 0, ia 1, ia 1, ib 65536, ib 0, ib 0], rfl, rfl, ⟨[ia 0], [ia 1, ia 1, ib 65536, ib 0, ib 0], rfl, rfl, ⟨[ia 1], [ia 1, ib 65536, ib 0, ib 0], rfl, rfl, ⟨[ia 1], [ib 65536, ib 0, ib 0], rfl, rfl, ⟨[ib 65536], [ib 0, ib 0], rfl, rfl, ⟨[ib 0], [ib 0], rfl, rfl, ⟨[ib 0], [], rfl, rfl, rfl⟩⟩⟩⟩⟩⟩⟩, ⟨[ia 0, ia 2, ia 10, ia 0, ib 0, ib (-1), ib 0], [], rfl, ⟨[ia 0], [ia 2, ia 10, ia 0, ib 0, ib (-1), ib 0], rfl, rfl, ⟨[ia 2], [ia 10, ia 0, ib 0, ib (-1), ib 0], rfl, rfl, ⟨[ia 10], [ia 0, ib 0, ib (-1), ib 0], rfl, rfl, ⟨[ia 0], [ib 0, ib (-1), ib 0], rfl, rfl, ⟨[ib 0], [ib (-1), ib 0], rfl, rfl, ⟨[ib (-1)], [ib 0], rfl, rfl, ⟨[ib 0], [], rfl, rfl, rfl⟩⟩⟩⟩⟩⟩⟩, rfl⟩⟩)) ?_)
 intro b0 w hS
 have hS := St.fr hS 0 rfl
 have hS : St B _ (Ass.box 75 a4 [sv e1 e5 d8] :: Ass.own 28 kS28 e1 e5 d8 :: Ass.box 28 a2 [ia 3, ia 0, ia 1, ia 1, ib 65536, ib 0, ib 0] :: os) (Ro.sl kS28 (some ⟨b0, 0, none⟩) 2 a8 :: rs) := hS.re [2, 2] [] rfl (sub_cons 0 rfl (sub_tail (sub_self)))
 obtain ⟨i7, j8, H⟩ := b1_out H
 have hq := trace_Trace_Add.calls j8 hS
 refine EL.of (EO.callD 14 [pt a4 0, sv (some ⟨b0, 0, none⟩) 2 a8] _ 13 (by kernel_rfl) (by kernel_rfl) (by kernel_rfl) hq ?_)
 rintro v w ⟨m3, n8, rfl, hS⟩
 refine EL.done (by kernel_rfl) ?_
 refine EQ.code ?_
 refine EW.sq (by kernel_rfl) ?_
 refine EW.rg (by kernel_rfl) ?_
 refine EL.quick 1 [1, 2, 15] [(1, pt a4 0), (2, pt a2 0), (15, pt a4 0)] (by kernel_rfl) ?_
 obtain ⟨a5, a9, j9, H⟩ := b2_out H
 have hq := trace_Trace_All.calls j9 hS
 refine EL.of (EO.callD 18 [pt a4 0] _ 16 (by kernel_rfl) (by kernel_rfl) (by kernel_rfl) hq ?_)
 rintro v w ⟨a6, a7, b4, b5, rfl, hS⟩
 have hS := St.fr hS 1 rfl
 have hS : St B _ (Ass.box 75 a4 [sv a6 a7 a5] :: Ass.box 28 a2 [ia 3, ia 0, ia 1, ia 1, ib 65536, ib 0, ib 0] :: os) (Ro.sl kS28 b4 b5 a9 :: Ro.sl kS28 a6 a7 a5 :: Ro.sl kS28 (some ⟨b0, 0, none⟩) 2 a8 :: rs) := hS.re [] [] rfl (sub_cons 0 rfl (sub_tail (sub_self)))
 obtain ⟨b3, m0, H⟩ := b1_out H
 have hq := trace_Put.calls m0 hS
 refine EL.of (EO.callD 15 [sv b4 b5 a9] _ 17 (by kernel_rfl) (by kernel_rfl) (by kernel_rfl) hq ?_)
 rintro v w ⟨b6, b7, rfl, hS⟩
 have hS := St.fr hS 0 rfl
 have hS : St B _ (Ass.box 75 a4 [sv a6 a7 a5] :: Ass.box 28 a2 [ia 3, ia 0, ia 1, ia 1, ib 65536, ib 0, ib 0] :: os) (Ro.sl (Kd.int .u8) b6 b7 b3 :: Ro.sl kS28 b4 b5 a9 :: Ro.sl kS28 a6 a7 a5 :: Ro.sl kS28 (some ⟨b0, 0, none⟩) 2 a8 :: rs) := hS.re [] [] rfl (sub_cons 0 rfl (sub_tail (sub_self)))
 obtain ⟨a0, b9, m1, H⟩ := b2_out H
 have hq := trace_Read.calls m1 hS
 refine EL.of (EO.callD 27 [sv b6 b7 b3] _ 18 (by kernel_rfl) (by kernel_rfl) (by kernel_rfl) hq ?_)
 rintro v w ⟨b8, a1, rfl, hS⟩
 refine EL.quick 5 [1, 2, 3, 4] [(1, pt a4 0), (2, pt a2 0), (3, sv b8 a1 a0), (4, ia b9)] (by kernel_rfl) ?_
 refine EL.done (by kernel_rfl) ?_
 refine EQ.code ?_
 refine EW.sq (by kernel_rfl) ?_
 obtain ⟨c2, c0, d0, H⟩ := b2_out H
 by_cases c6 : (c0.length : Int) = 2
 ·rw [if_pos c6] at H
  by_cases c8 : b9 = 0
  ·rw [if_pos c8] at H
   by_cases c9 : (a0.length : Int) = 2
   ·rw [if_pos c9] at H
    obtain ⟨c4, H⟩ := ite_in H
    obtain ⟨a3, rfl⟩ := St.rd_some hS (Rd.ro 0 rfl) (by decide) c4
    by_cases d2 : ((((a0.getD (0 : Int).toNat zS28).f0) == (3 : Int)) && ((((a0.getD (0 : Int).toNat zS28).f1) == (0 : Int)) && ((((a0.getD (0 : Int).toNat zS28).f2) == (1 : Int)) && ((((a0.getD (0 : Int).toNat zS28).f3) == (1 : Int)) && ((((a0.getD (0 : Int).toNat zS28).f4) == (65536 : Int)) && ((((a0.getD (0 : Int).toNat zS28).f5) == (0 : Int)) && ((((a0.getD (0 : Int).toNat zS28).f6) == (0 : Int)) && true))))))) = true
    ·rw [if_pos d2] at H
     obtain ⟨c5, e0, H⟩ := b1_out H
     by_cases d4 : (c5.toList == (⟨#[51, 32, 48, 32, 116, 97, 107, 101, 32, 49, 32, 54, 53, 53, 51, 54, 32, 48, 32, 48]⟩ : ByteArray).toList) = true
     ·rw [if_pos d4] at H
      obtain ⟨c1, d3, H⟩ := lt_out H
      obtain ⟨c3, f7, H⟩ := b1_out H
      by_cases d6 : (c3.length : Int) = 1
      ·rw [if_pos d6] at H
       obtain ⟨c7, d7, H⟩ := lt_out H
       obtain ⟨d1, g2, H⟩ := b1_out H
       by_cases d9 : (d1.length : Int) = 1
       ·rw [if_pos d9] at H
        obtain ⟨d5, i5, H⟩ := b1_out H
        by_cases e9 : d5 = true
        ·rw [if_pos e9] at H
         obtain ⟨f8, m2, H⟩ := b1_out H
         have hS := hS.drew
         refine EW.dr (B := B) [Ass.box 28 a2 [ia 3, ia 0, ia 1, ia 1, ib 65536, ib 0, ib 0]] [Ro.sl kS28 (some a3) a1 a0, Ro.sl (Kd.int .u8) b6 b7 b3, Ro.sl kS28 b4 b5 a9, Ro.sl kS28 a6 a7 a5, Ro.sl kS28 (some ⟨b0, 0, none⟩) 2 a8] (by kernel_rfl) (by kernel_rfl) ?_
         have hN : Region.noSelect Cd11.r.r.r.r.r.r.l.ops = true := (by kernel_rfl)
         have hF : freeAll Cd11.r.r.r.r.r.r.l.ops = true := (by kernel_rfl)
         have hC : Core B [Ass.box 28 a2 [ia 3, ia 0, ia 1, ia 1, ib 65536, ib 0, ib 0]] [Ro.sl kS28 (some a3) a1 a0, Ro.sl (Kd.int .u8) b6 b7 b3, Ro.sl kS28 b4 b5 a9, Ro.sl kS28 a6 a7 a5, Ro.sl kS28 (some ⟨b0, 0, none⟩) 2 a8] _ := ⟨_, _, hS.re [1] [] rfl sub_self⟩
         refine ED.quick hN hF hC [0] [2, 3, 4, 21] 48 [(2, pt a2 0), (3, sv (some a3) a1 a0), (4, ia b9), (21, pt a4 0)] (bm 49 1) (by kernel_rfl) (by kernel_rfl) ?_
         refine ED.keep [2, 3, 4, 21] [(2, pt a2 0), (3, sv (some a3) a1 a0), (4, ia b9), (21, pt a4 0)] (by kernel_rfl) ?_
         refine ED.as' [(2, pt a2 0), (3, sv (some a3) a1 a0), (4, ia 0), (21, pt a4 0)] (by simp only [encS28, sv, c8]) ?_
         have hS : St B _ (Ass.box 75 a4 [sv a6 a7 a5] :: Ass.box 28 a2 [ia 3, ia 0, ia 1, ia 1, ib 65536, ib 0, ib 0] :: os) (Ro.sl kS28 a6 a7 a5 :: Ro.sl kS28 (some a3) a1 a0 :: Ro.sl (Kd.int .u8) b6 b7 b3 :: Ro.sl kS28 b4 b5 a9 :: Ro.sl kS28 (some ⟨b0, 0, none⟩) 2 a8 :: rs) := hS.re [0] [] rfl (sub_cons 3 rfl (sub_cons 0 rfl (sub_cons 1 rfl (sub_cons 2 rfl (sub_tail (sub_tail (sub_tail (sub_tail (sub_self)))))))))
         have hq := trace_Trace_All_18.calls d0 hS
         refine ED.one 1 47 (bm 49 3) (by kernel_rfl) (by kernel_rfl) (by kernel_rfl) (EO.callD 18 [pt a4 0] _ 22 (by kernel_rfl) (by kernel_rfl) (by kernel_rfl) hq ?_)
         rintro v w ⟨e2, e6, g3, g7, rfl, hS⟩
         have hC := hC.again ⟨_, _, hS.re [2] [] rfl (sub_cons 2 rfl (sub_cons 3 rfl (sub_cons 4 rfl (sub_cons 1 rfl (sub_cons 5 rfl sub_self)))))⟩
         refine ⟨hC, ?_⟩
         refine ED.quick hN hF hC [2] [2, 3, 4, 23] 46 [(2, pt a2 0), (3, sv (some a3) a1 a0), (4, ia 0), (23, ia (c0.length : Int))] (bm 49 7) (by kernel_rfl) (by kernel_rfl) ?_
         refine ED.keep [2, 3, 4, 23] [(2, pt a2 0), (3, sv (some a3) a1 a0), (4, ia 0), (23, ia (c0.length : Int))] (by kernel_rfl) ?_
         refine ED.as' [(2, pt a2 0), (3, sv (some a3) a1 a0), (4, ia 0), (23, ia 2)] (by simp only [encS28, sv, c6]) ?_
         refine ED.quick hN hF hC [3, 4, 5, 6, 7, 8, 9, 10] [2, 3, 29, 31] 38 [(2, pt a2 0), (3, sv (some a3) a1 a0), (29, .bool (true)), (31, ia (a0.length : Int))] (bm 49 2047) (by kernel_rfl) (by kernel_rfl) ?_
         refine ED.keep [2, 3, 29, 31] [(2, pt a2 0), (3, sv (some a3) a1 a0), (29, .bool (true)), (31, ia (a0.length : Int))] (by kernel_rfl) ?_
         refine ED.as' [(2, pt a2 0), (3, sv (some a3) a1 a0), (29, .bool (true)), (31, ia 2)] (by simp only [encS28, sv, c9]) ?_
         refine ED.quick hN hF hC [11, 12, 13, 14] [2, 3, 34, 35] 34 [(2, pt a2 0), (3, sv (some a3) a1 a0), (34, .bool (true)), (35, sv (some a3) a1 a0)] (bm 49 32767) (by kernel_rfl) (by kernel_rfl) ?_
         refine ED.Y hN hF hC 15 33 (bm 49 65535) (by kernel_rfl) (by kernel_rfl) rfl (fun _ _ _ hS => YO.idx 22 7 a3 a0.length a1 .i64 0 36 (by kernel_rfl) (by kernel_rfl) (by kernel_rfl) (by kernel_rfl) (by decide) c4) ?_
         refine ED.Y hN hF hC 16 32 (bm 49 131071) (by kernel_rfl) (by kernel_rfl) rfl (fun _ _ _ hS => YO.loadEl hS kS28 a3 a1 a0 (Rd.ro 0 rfl) zS28 encS28 encS28_of 0 (by decide) c4 28 7 0 7 rfl (ag (encS28 (a0.getD (0 : Int).toNat zS28))) 37 (by kernel_rfl) (by kernel_rfl) (by kernel_rfl) (by kernel_rfl)) ?_
         refine ED.Y hN hF hC 17 31 (bm 49 262143) (by kernel_rfl) (by kernel_rfl) rfl (fun _ _ _ hS => YO.loadBox hS 0 rfl 28 0 7 (ag [ia 3, ia 0, ia 1, ia 1, ib 65536, ib 0, ib 0]) 38 (by kernel_rfl) (by kernel_rfl) (by kernel_rfl) (by kernel_rfl)) ?_
         refine ED.Y hN hF hC 18 30 (bm 49 524287) (by kernel_rfl) (by kernel_rfl) rfl (fun _ _ _ hS => YO.eqAg .eql 28 (.tmp 37) (.tmp 38) #[ia ((a0.getD (0 : Int).toNat zS28).f0), ia ((a0.getD (0 : Int).toNat zS28).f1), ia ((a0.getD (0 : Int).toNat zS28).f2), ia ((a0.getD (0 : Int).toNat zS28).f3), ib ((a0.getD (0 : Int).toNat zS28).f4), ib ((a0.getD (0 : Int).toNat zS28).f5), ib ((a0.getD (0 : Int).toNat zS28).f6)] #[ia 3, ia 0, ia 1, ia 1, ib 65536, ib 0, ib 0] ((((a0.getD (0 : Int).toNat zS28).f0) == (3 : Int)) && ((((a0.getD (0 : Int).toNat zS28).f1) == (0 : Int)) && ((((a0.getD (0 : Int).toNat zS28).f2) == (1 : Int)) && ((((a0.getD (0 : Int).toNat zS28).f3) == (1 : Int)) && ((((a0.getD (0 : Int).toNat zS28).f4) == (65536 : Int)) && ((((a0.getD (0 : Int).toNat zS28).f5) == (0 : Int)) && ((((a0.getD (0 : Int).toNat zS28).f6) == (0 : Int)) && true))))))) (((((a0.getD (0 : Int).toNat zS28).f0) == (3 : Int)) && ((((a0.getD (0 : Int).toNat zS28).f1) == (0 : Int)) && ((((a0.getD (0 : Int).toNat zS28).f2) == (1 : Int)) && ((((a0.getD (0 : Int).toNat zS28).f3) == (1 : Int)) && ((((a0.getD (0 : Int).toNat zS28).f4) == (65536 : Int)) && ((((a0.getD (0 : Int).toNat zS28).f5) == (0 : Int)) && ((((a0.getD (0 : Int).toNat zS28).f6) == (0 : Int)) && true)))))))) 39 (by kernel_rfl) (by kernel_rfl) (by kernel_rfl) (by kernel_rfl) (by kernel_rfl) (.inl ⟨rfl, rfl⟩)) ?_
         refine ED.quick hN hF hC [19, 20] [2, 3, 41] 28 [(2, pt a2 0), (3, sv (some a3) a1 a0), (41, .bool (((((a0.getD (0 : Int).toNat zS28).f0) == (3 : Int)) && ((((a0.getD (0 : Int).toNat zS28).f1) == (0 : Int)) && ((((a0.getD (0 : Int).toNat zS28).f2) == (1 : Int)) && ((((a0.getD (0 : Int).toNat zS28).f3) == (1 : Int)) && ((((a0.getD (0 : Int).toNat zS28).f4) == (65536 : Int)) && ((((a0.getD (0 : Int).toNat zS28).f5) == (0 : Int)) && ((((a0.getD (0 : Int).toNat zS28).f6) == (0 : Int)) && true)))))))))] (bm 49 2097151) (by kernel_rfl) (by kernel_rfl) ?_
         refine ED.keep [2, 3, 41] [(2, pt a2 0), (3, sv (some a3) a1 a0), (41, .bool (((((a0.getD (0 : Int).toNat zS28).f0) == (3 : Int)) && ((((a0.getD (0 : Int).toNat zS28).f1) == (0 : Int)) && ((((a0.getD (0 : Int).toNat zS28).f2) == (1 : Int)) && ((((a0.getD (0 : Int).toNat zS28).f3) == (1 : Int)) && ((((a0.getD (0 : Int).toNat zS28).f4) == (65536 : Int)) && ((((a0.getD (0 : Int).toNat zS28).f5) == (0 : Int)) && ((((a0.getD (0 : Int).toNat zS28).f6) == (0 : Int)) && true)))))))))] (by kernel_rfl) ?_
         refine ED.as' [(2, pt a2 0), (3, sv (some a3) a1 a0), (41, .bool (true))] (by simp only [encS28, sv, d2, Bool.not_true, Bool.not_false]) ?_
         refine ED.Y hN hF hC 21 27 (bm 49 4194303) (by kernel_rfl) (by kernel_rfl) rfl (fun _ _ _ hS => YO.loadBox hS 0 rfl 28 0 7 (ag [ia 3, ia 0, ia 1, ia 1, ib 65536, ib 0, ib 0]) 42 (by kernel_rfl) (by kernel_rfl) (by kernel_rfl) (by kernel_rfl)) ?_
         have hq := trace_Text.calls e0 hS gB
         refine ED.one 22 26 (bm 49 8388607) (by kernel_rfl) (by kernel_rfl) (by kernel_rfl) (EO.callD 25 [ag [ia 3, ia 0, ia 1, ia 1, ib 65536, ib 0, ib 0]] _ 43 (by kernel_rfl) (by kernel_rfl) (by kernel_rfl) hq ?_)
         rintro v w ⟨rfl, hS⟩
         have hC := hC.again ⟨_, _, hS.re [2] [] rfl (sub_cons 2 rfl (sub_cons 3 rfl (sub_cons 4 rfl (sub_cons 1 rfl (sub_cons 5 rfl sub_self)))))⟩
         refine ⟨hC, ?_⟩
         refine ED.quick hN hF hC [23, 24, 25] [2, 3, 46] 23 [(2, pt a2 0), (3, sv (some a3) a1 a0), (46, .bool ((c5.toList == (⟨#[51, 32, 48, 32, 116, 97, 107, 101, 32, 49, 32, 54, 53, 53, 51, 54, 32, 48, 32, 48]⟩ : ByteArray).toList)))] (bm 49 67108863) (by kernel_rfl) (by kernel_rfl) ?_
         refine ED.keep [2, 3, 46] [(2, pt a2 0), (3, sv (some a3) a1 a0), (46, .bool ((c5.toList == (⟨#[51, 32, 48, 32, 116, 97, 107, 101, 32, 49, 32, 54, 53, 53, 51, 54, 32, 48, 32, 48]⟩ : ByteArray).toList)))] (by kernel_rfl) ?_
         refine ED.as' [(2, pt a2 0), (3, sv (some a3) a1 a0), (46, .bool (true))] (by simp only [encS28, sv, d4, Bool.not_true, Bool.not_false]) ?_
         refine ED.quick hN hF hC [26] [2, 3, 46, 47] 22 [(2, pt a2 0), (3, sv (some a3) a1 a0), (46, .bool (true)), (47, sv (some a3) a1 a0)] (bm 49 134217727) (by kernel_rfl) (by kernel_rfl) ?_
         refine ED.one 27 21 (bm 49 268435455) (by kernel_rfl) (by kernel_rfl) (by kernel_rfl) (EO.lit hS (Kd.int .i64) 3 24 1 #[(0, ia 2)] [ia 2] c1 48 (by kernel_rfl) (by kernel_rfl) (by kernel_rfl) (fun _ => (by kernel_rfl)) (by rw [d3]; rfl) (by kernel_rfl) (fun w G hr => (by rw [d3]; exact ⟨[ia 2], [], rfl, rfl, rfl⟩)) ?_)
         intro f9 w hS
         have hC := hC.again ⟨_, _, hS.re [3] [] rfl (sub_cons 2 rfl (sub_cons 3 rfl (sub_cons 4 rfl (sub_cons 1 rfl (sub_cons 5 rfl sub_self)))))⟩
         refine ⟨hC, ?_⟩
         have hS := St.fr hS 0 rfl
         have hS : St B _ (Ass.box 75 a4 [sv e2 e6 c2] :: Ass.own 28 kS28 g3 g7 c0 :: Ass.box 28 a2 [ia 3, ia 0, ia 1, ia 1, ib 65536, ib 0, ib 0] :: os) (Ro.sl kS28 (some a3) a1 a0 :: Ro.sl (Kd.int .i64) (some ⟨f9, 0, none⟩) 1 c1 :: Ro.sl kS28 e2 e6 c2 :: Ro.sl kS28 a6 a7 a5 :: Ro.sl (Kd.int .u8) b6 b7 b3 :: Ro.sl kS28 b4 b5 a9 :: Ro.sl kS28 (some ⟨b0, 0, none⟩) 2 a8 :: rs) := hS.re [] [] rfl (sub_cons 3 rfl (sub_cons 0 rfl (sub_cons 1 rfl (sub_cons 2 rfl (sub_tail (sub_tail (sub_tail (sub_tail (sub_self)))))))))
         have hq := trace_Of.calls f7 hS
         refine ED.one 28 20 (bm 49 536870911) (by kernel_rfl) (by kernel_rfl) (by kernel_rfl) (EO.callD 19 [sv (some a3) a1 a0, sv (some ⟨f9, 0, none⟩) 1 c1] _ 49 (by kernel_rfl) (by kernel_rfl) (by kernel_rfl) hq ?_)
         rintro v w ⟨i9, j3, rfl, hS⟩
         have hC := hC.again ⟨_, _, hS.re [3] [] rfl (sub_cons 0 rfl (sub_cons 4 rfl (sub_cons 5 rfl (sub_cons 3 rfl (sub_cons 6 rfl sub_self)))))⟩
         refine ⟨hC, ?_⟩
         refine ED.quick hN hF hC [29] [2, 3, 46, 50] 19 [(2, pt a2 0), (3, sv (some a3) a1 a0), (46, .bool (true)), (50, ia (c3.length : Int))] (bm 49 1073741823) (by kernel_rfl) (by kernel_rfl) ?_
         refine ED.keep [2, 3, 46, 50] [(2, pt a2 0), (3, sv (some a3) a1 a0), (46, .bool (true)), (50, ia (c3.length : Int))] (by kernel_rfl) ?_
         refine ED.as' [(2, pt a2 0), (3, sv (some a3) a1 a0), (46, .bool (true)), (50, ia 1)] (by simp only [encS28, sv, d6]) ?_
         refine ED.quick hN hF hC [30, 31, 32, 33] [2, 53, 54] 15 [(2, pt a2 0), (53, .bool (true)), (54, sv (some a3) a1 a0)] (bm 49 17179869183) (by kernel_rfl) (by kernel_rfl) ?_
         refine ED.one 34 14 (bm 49 34359738367) (by kernel_rfl) (by kernel_rfl) (by kernel_rfl) (EO.lit hS (Kd.int .i64) 3 24 1 #[(0, ia 1)] [ia 1] c7 55 (by kernel_rfl) (by kernel_rfl) (by kernel_rfl) (fun _ => (by kernel_rfl)) (by rw [d7]; rfl) (by kernel_rfl) (fun w G hr => (by rw [d7]; exact ⟨[ia 1], [], rfl, rfl, rfl⟩)) ?_)
         intro i1 w hS
         have hC := hC.again ⟨_, _, hS.re [4] [] rfl (sub_cons 0 rfl (sub_cons 4 rfl (sub_cons 5 rfl (sub_cons 3 rfl (sub_cons 6 rfl sub_self)))))⟩
         refine ⟨hC, ?_⟩
         have hS := St.fr hS 0 rfl
         have hS : St B _ (Ass.own 28 kS28 i9 j3 c3 :: Ass.box 75 a4 [sv e2 e6 c2] :: Ass.own 28 kS28 g3 g7 c0 :: Ass.box 28 a2 [ia 3, ia 0, ia 1, ia 1, ib 65536, ib 0, ib 0] :: os) (Ro.sl kS28 (some a3) a1 a0 :: Ro.sl (Kd.int .i64) (some ⟨i1, 0, none⟩) 1 c7 :: Ro.sl (Kd.int .i64) (some ⟨f9, 0, none⟩) 1 c1 :: Ro.sl kS28 e2 e6 c2 :: Ro.sl kS28 a6 a7 a5 :: Ro.sl (Kd.int .u8) b6 b7 b3 :: Ro.sl kS28 b4 b5 a9 :: Ro.sl kS28 (some ⟨b0, 0, none⟩) 2 a8 :: rs) := hS.re [] [] rfl (sub_cons 1 rfl (sub_cons 0 rfl (sub_tail (sub_tail (sub_self)))))
         have hq := trace_Kinds.calls g2 hS
         refine ED.one 35 13 (bm 49 68719476735) (by kernel_rfl) (by kernel_rfl) (by kernel_rfl) (EO.callD 21 [sv (some a3) a1 a0, sv (some ⟨i1, 0, none⟩) 1 c7] _ 56 (by kernel_rfl) (by kernel_rfl) (by kernel_rfl) hq ?_)
         rintro v w ⟨m4, n9, rfl, hS⟩
         have hC := hC.again ⟨_, _, hS.re [4] [] rfl (sub_cons 0 rfl (sub_cons 5 rfl (sub_cons 6 rfl (sub_cons 4 rfl (sub_cons 7 rfl sub_self)))))⟩
         refine ⟨hC, ?_⟩
         refine ED.quick hN hF hC [36] [2, 53, 57] 12 [(2, pt a2 0), (53, .bool (true)), (57, ia (d1.length : Int))] (bm 49 137438953471) (by kernel_rfl) (by kernel_rfl) ?_
         refine ED.keep [2, 53, 57] [(2, pt a2 0), (53, .bool (true)), (57, ia (d1.length : Int))] (by kernel_rfl) ?_
         refine ED.as' [(2, pt a2 0), (53, .bool (true)), (57, ia 1)] (by simp only [encS28, sv, d9]) ?_
         refine ED.quick hN hF hC [37, 38, 39] [2, 60] 9 [(2, pt a2 0), (60, .bool (true))] (bm 49 1099511627775) (by kernel_rfl) (by kernel_rfl) ?_
         refine ED.Y hN hF hC 40 8 (bm 49 2199023255551) (by kernel_rfl) (by kernel_rfl) rfl (fun _ _ _ hS => YO.loadBox hS 0 rfl 28 0 7 (ag [ia 3, ia 0, ia 1, ia 1, ib 65536, ib 0, ib 0]) 61 (by kernel_rfl) (by kernel_rfl) (by kernel_rfl) (by kernel_rfl)) ?_
         have hq := trace_Right.calls i5 hS
         refine ED.one 41 7 (bm 49 4398046511103) (by kernel_rfl) (by kernel_rfl) (by kernel_rfl) (EO.callD 23 [ag [ia 3, ia 0, ia 1, ia 1, ib 65536, ib 0, ib 0]] _ 62 (by kernel_rfl) (by kernel_rfl) (by kernel_rfl) hq ?_)
         rintro v w ⟨rfl, hS⟩
         have hC := hC.again ⟨_, _, hS.re [4] [] rfl (sub_cons 0 rfl (sub_cons 5 rfl (sub_cons 6 rfl (sub_cons 4 rfl (sub_cons 7 rfl sub_self)))))⟩
         refine ⟨hC, ?_⟩
         refine ED.quick hN hF hC [42, 43] [64] 5 [(64, .bool (d5))] (bm 49 17592186044415) (by kernel_rfl) (by kernel_rfl) ?_
         refine ED.keep [64] [(64, .bool (d5))] (by kernel_rfl) ?_
         refine ED.as' [(64, .bool (true))] (by simp only [encS28, sv, e9, Bool.not_true, Bool.not_false]) ?_
         refine ED.quick hN hF hC [44] [64, 65] 4 [(64, .bool (true)), (65, ag (encS28 zS28))] (bm 49 35184372088831) (by kernel_rfl) (by kernel_rfl) ?_
         have hq := trace_Right.calls m2 hS
         refine ED.one 45 3 (bm 49 70368744177663) (by kernel_rfl) (by kernel_rfl) (by kernel_rfl) (EO.callD 23 [ag (encS28 zS28)] _ 66 (by kernel_rfl) (by kernel_rfl) (by kernel_rfl) hq ?_)
         rintro v w ⟨rfl, hS⟩
         have hC := hC.again ⟨_, _, hS.re [4] [] rfl (sub_cons 0 rfl (sub_cons 5 rfl (sub_cons 6 rfl (sub_cons 4 rfl (sub_cons 7 rfl sub_self)))))⟩
         refine ⟨hC, ?_⟩
         refine ED.quick hN hF hC [46, 47, 48] [0] 0 [(0, .bool (!(f8)))] (bm 49 562949953421311) (by kernel_rfl) (by kernel_rfl) ?_
         refine ED.done (by kernel_rfl) ?_
         refine EQ.code ?_
         refine EW.ret (by kernel_rfl) ?_
         obtain rfl := Option.some.inj H
         exact EQ.leave (.bool (!(f8))) (by kernel_rfl) ⟨_, rfl, rfl, (hS.re [] [0, 0, 0, 0, 0] rfl (sub_tail (sub_tail (sub_tail (sub_tail (sub_tail (sub_tail (sub_tail (sub_tail (sub_self))))))))))⟩
        rw [if_neg e9] at H
        have hS := hS.drew
        refine EW.dr (B := B) [Ass.box 28 a2 [ia 3, ia 0, ia 1, ia 1, ib 65536, ib 0, ib 0]] [Ro.sl kS28 (some a3) a1 a0, Ro.sl (Kd.int .u8) b6 b7 b3, Ro.sl kS28 b4 b5 a9, Ro.sl kS28 a6 a7 a5, Ro.sl kS28 (some ⟨b0, 0, none⟩) 2 a8] (by kernel_rfl) (by kernel_rfl) ?_
        have hN : Region.noSelect Cd11.r.r.r.r.r.r.l.ops = true := (by kernel_rfl)
        have hF : freeAll Cd11.r.r.r.r.r.r.l.ops = true := (by kernel_rfl)
        have hC : Core B [Ass.box 28 a2 [ia 3, ia 0, ia 1, ia 1, ib 65536, ib 0, ib 0]] [Ro.sl kS28 (some a3) a1 a0, Ro.sl (Kd.int .u8) b6 b7 b3, Ro.sl kS28 b4 b5 a9, Ro.sl kS28 a6 a7 a5, Ro.sl kS28 (some ⟨b0, 0, none⟩) 2 a8] _ := ⟨_, _, hS.re [1] [] rfl sub_self⟩
        refine ED.quick hN hF hC [0] [2, 3, 4, 21] 48 [(2, pt a2 0), (3, sv (some a3) a1 a0), (4, ia b9), (21, pt a4 0)] (bm 49 1) (by kernel_rfl) (by kernel_rfl) ?_
        refine ED.keep [2, 3, 4, 21] [(2, pt a2 0), (3, sv (some a3) a1 a0), (4, ia b9), (21, pt a4 0)] (by kernel_rfl) ?_
        refine ED.as' [(2, pt a2 0), (3, sv (some a3) a1 a0), (4, ia 0), (21, pt a4 0)] (by simp only [encS28, sv, c8]) ?_
        have hS : St B _ (Ass.box 75 a4 [sv a6 a7 a5] :: Ass.box 28 a2 [ia 3, ia 0, ia 1, ia 1, ib 65536, ib 0, ib 0] :: os) (Ro.sl kS28 a6 a7 a5 :: Ro.sl kS28 (some a3) a1 a0 :: Ro.sl (Kd.int .u8) b6 b7 b3 :: Ro.sl kS28 b4 b5 a9 :: Ro.sl kS28 (some ⟨b0, 0, none⟩) 2 a8 :: rs) := hS.re [0] [] rfl (sub_cons 3 rfl (sub_cons 0 rfl (sub_cons 1 rfl (sub_cons 2 rfl (sub_tail (sub_tail (sub_tail (sub_tail (sub_self)))))))))
        have hq := trace_Trace_All_18.calls d0 hS
        refine ED.one 1 47 (bm 49 3) (by kernel_rfl) (by kernel_rfl) (by kernel_rfl) (EO.callD 18 [pt a4 0] _ 22 (by kernel_rfl) (by kernel_rfl) (by kernel_rfl) hq ?_)
        rintro v w ⟨e3, e7, g4, g8, rfl, hS⟩
        have hC := hC.again ⟨_, _, hS.re [2] [] rfl (sub_cons 2 rfl (sub_cons 3 rfl (sub_cons 4 rfl (sub_cons 1 rfl (sub_cons 5 rfl sub_self)))))⟩
        refine ⟨hC, ?_⟩
        refine ED.quick hN hF hC [2] [2, 3, 4, 23] 46 [(2, pt a2 0), (3, sv (some a3) a1 a0), (4, ia 0), (23, ia (c0.length : Int))] (bm 49 7) (by kernel_rfl) (by kernel_rfl) ?_
        refine ED.keep [2, 3, 4, 23] [(2, pt a2 0), (3, sv (some a3) a1 a0), (4, ia 0), (23, ia (c0.length : Int))] (by kernel_rfl) ?_
        refine ED.as' [(2, pt a2 0), (3, sv (some a3) a1 a0), (4, ia 0), (23, ia 2)] (by simp only [encS28, sv, c6]) ?_
        refine ED.quick hN hF hC [3, 4, 5, 6, 7, 8, 9, 10] [2, 3, 29, 31] 38 [(2, pt a2 0), (3, sv (some a3) a1 a0), (29, .bool (true)), (31, ia (a0.length : Int))] (bm 49 2047) (by kernel_rfl) (by kernel_rfl) ?_
        refine ED.keep [2, 3, 29, 31] [(2, pt a2 0), (3, sv (some a3) a1 a0), (29, .bool (true)), (31, ia (a0.length : Int))] (by kernel_rfl) ?_
        refine ED.as' [(2, pt a2 0), (3, sv (some a3) a1 a0), (29, .bool (true)), (31, ia 2)] (by simp only [encS28, sv, c9]) ?_
        refine ED.quick hN hF hC [11, 12, 13, 14] [2, 3, 34, 35] 34 [(2, pt a2 0), (3, sv (some a3) a1 a0), (34, .bool (true)), (35, sv (some a3) a1 a0)] (bm 49 32767) (by kernel_rfl) (by kernel_rfl) ?_
        refine ED.Y hN hF hC 15 33 (bm 49 65535) (by kernel_rfl) (by kernel_rfl) rfl (fun _ _ _ hS => YO.idx 22 7 a3 a0.length a1 .i64 0 36 (by kernel_rfl) (by kernel_rfl) (by kernel_rfl) (by kernel_rfl) (by decide) c4) ?_
        refine ED.Y hN hF hC 16 32 (bm 49 131071) (by kernel_rfl) (by kernel_rfl) rfl (fun _ _ _ hS => YO.loadEl hS kS28 a3 a1 a0 (Rd.ro 0 rfl) zS28 encS28 encS28_of 0 (by decide) c4 28 7 0 7 rfl (ag (encS28 (a0.getD (0 : Int).toNat zS28))) 37 (by kernel_rfl) (by kernel_rfl) (by kernel_rfl) (by kernel_rfl)) ?_
        refine ED.Y hN hF hC 17 31 (bm 49 262143) (by kernel_rfl) (by kernel_rfl) rfl (fun _ _ _ hS => YO.loadBox hS 0 rfl 28 0 7 (ag [ia 3, ia 0, ia 1, ia 1, ib 65536, ib 0, ib 0]) 38 (by kernel_rfl) (by kernel_rfl) (by kernel_rfl) (by kernel_rfl)) ?_
        refine ED.Y hN hF hC 18 30 (bm 49 524287) (by kernel_rfl) (by kernel_rfl) rfl (fun _ _ _ hS => YO.eqAg .eql 28 (.tmp 37) (.tmp 38) #[ia ((a0.getD (0 : Int).toNat zS28).f0), ia ((a0.getD (0 : Int).toNat zS28).f1), ia ((a0.getD (0 : Int).toNat zS28).f2), ia ((a0.getD (0 : Int).toNat zS28).f3), ib ((a0.getD (0 : Int).toNat zS28).f4), ib ((a0.getD (0 : Int).toNat zS28).f5), ib ((a0.getD (0 : Int).toNat zS28).f6)] #[ia 3, ia 0, ia 1, ia 1, ib 65536, ib 0, ib 0] ((((a0.getD (0 : Int).toNat zS28).f0) == (3 : Int)) && ((((a0.getD (0 : Int).toNat zS28).f1) == (0 : Int)) && ((((a0.getD (0 : Int).toNat zS28).f2) == (1 : Int)) && ((((a0.getD (0 : Int).toNat zS28).f3) == (1 : Int)) && ((((a0.getD (0 : Int).toNat zS28).f4) == (65536 : Int)) && ((((a0.getD (0 : Int).toNat zS28).f5) == (0 : Int)) && ((((a0.getD (0 : Int).toNat zS28).f6) == (0 : Int)) && true))))))) (((((a0.getD (0 : Int).toNat zS28).f0) == (3 : Int)) && ((((a0.getD (0 : Int).toNat zS28).f1) == (0 : Int)) && ((((a0.getD (0 : Int).toNat zS28).f2) == (1 : Int)) && ((((a0.getD (0 : Int).toNat zS28).f3) == (1 : Int)) && ((((a0.getD (0 : Int).toNat zS28).f4) == (65536 : Int)) && ((((a0.getD (0 : Int).toNat zS28).f5) == (0 : Int)) && ((((a0.getD (0 : Int).toNat zS28).f6) == (0 : Int)) && true)))))))) 39 (by kernel_rfl) (by kernel_rfl) (by kernel_rfl) (by kernel_rfl) (by kernel_rfl) (.inl ⟨rfl, rfl⟩)) ?_
        refine ED.quick hN hF hC [19, 20] [2, 3, 41] 28 [(2, pt a2 0), (3, sv (some a3) a1 a0), (41, .bool (((((a0.getD (0 : Int).toNat zS28).f0) == (3 : Int)) && ((((a0.getD (0 : Int).toNat zS28).f1) == (0 : Int)) && ((((a0.getD (0 : Int).toNat zS28).f2) == (1 : Int)) && ((((a0.getD (0 : Int).toNat zS28).f3) == (1 : Int)) && ((((a0.getD (0 : Int).toNat zS28).f4) == (65536 : Int)) && ((((a0.getD (0 : Int).toNat zS28).f5) == (0 : Int)) && ((((a0.getD (0 : Int).toNat zS28).f6) == (0 : Int)) && true)))))))))] (bm 49 2097151) (by kernel_rfl) (by kernel_rfl) ?_
        refine ED.keep [2, 3, 41] [(2, pt a2 0), (3, sv (some a3) a1 a0), (41, .bool (((((a0.getD (0 : Int).toNat zS28).f0) == (3 : Int)) && ((((a0.getD (0 : Int).toNat zS28).f1) == (0 : Int)) && ((((a0.getD (0 : Int).toNat zS28).f2) == (1 : Int)) && ((((a0.getD (0 : Int).toNat zS28).f3) == (1 : Int)) && ((((a0.getD (0 : Int).toNat zS28).f4) == (65536 : Int)) && ((((a0.getD (0 : Int).toNat zS28).f5) == (0 : Int)) && ((((a0.getD (0 : Int).toNat zS28).f6) == (0 : Int)) && true)))))))))] (by kernel_rfl) ?_
        refine ED.as' [(2, pt a2 0), (3, sv (some a3) a1 a0), (41, .bool (true))] (by simp only [encS28, sv, d2, Bool.not_true, Bool.not_false]) ?_
        refine ED.Y hN hF hC 21 27 (bm 49 4194303) (by kernel_rfl) (by kernel_rfl) rfl (fun _ _ _ hS => YO.loadBox hS 0 rfl 28 0 7 (ag [ia 3, ia 0, ia 1, ia 1, ib 65536, ib 0, ib 0]) 42 (by kernel_rfl) (by kernel_rfl) (by kernel_rfl) (by kernel_rfl)) ?_
        have hq := trace_Text.calls e0 hS gB
        refine ED.one 22 26 (bm 49 8388607) (by kernel_rfl) (by kernel_rfl) (by kernel_rfl) (EO.callD 25 [ag [ia 3, ia 0, ia 1, ia 1, ib 65536, ib 0, ib 0]] _ 43 (by kernel_rfl) (by kernel_rfl) (by kernel_rfl) hq ?_)
        rintro v w ⟨rfl, hS⟩
        have hC := hC.again ⟨_, _, hS.re [2] [] rfl (sub_cons 2 rfl (sub_cons 3 rfl (sub_cons 4 rfl (sub_cons 1 rfl (sub_cons 5 rfl sub_self)))))⟩
        refine ⟨hC, ?_⟩
        refine ED.quick hN hF hC [23, 24, 25] [2, 3, 46] 23 [(2, pt a2 0), (3, sv (some a3) a1 a0), (46, .bool ((c5.toList == (⟨#[51, 32, 48, 32, 116, 97, 107, 101, 32, 49, 32, 54, 53, 53, 51, 54, 32, 48, 32, 48]⟩ : ByteArray).toList)))] (bm 49 67108863) (by kernel_rfl) (by kernel_rfl) ?_
        refine ED.keep [2, 3, 46] [(2, pt a2 0), (3, sv (some a3) a1 a0), (46, .bool ((c5.toList == (⟨#[51, 32, 48, 32, 116, 97, 107, 101, 32, 49, 32, 54, 53, 53, 51, 54, 32, 48, 32, 48]⟩ : ByteArray).toList)))] (by kernel_rfl) ?_
        refine ED.as' [(2, pt a2 0), (3, sv (some a3) a1 a0), (46, .bool (true))] (by simp only [encS28, sv, d4, Bool.not_true, Bool.not_false]) ?_
        refine ED.quick hN hF hC [26] [2, 3, 46, 47] 22 [(2, pt a2 0), (3, sv (some a3) a1 a0), (46, .bool (true)), (47, sv (some a3) a1 a0)] (bm 49 134217727) (by kernel_rfl) (by kernel_rfl) ?_
        refine ED.one 27 21 (bm 49 268435455) (by kernel_rfl) (by kernel_rfl) (by kernel_rfl) (EO.lit hS (Kd.int .i64) 3 24 1 #[(0, ia 2)] [ia 2] c1 48 (by kernel_rfl) (by kernel_rfl) (by kernel_rfl) (fun _ => (by kernel_rfl)) (by rw [d3]; rfl) (by kernel_rfl) (fun w G hr => (by rw [d3]; exact ⟨[ia 2], [], rfl, rfl, rfl⟩)) ?_)
        intro g0 w hS
        have hC := hC.again ⟨_, _, hS.re [3] [] rfl (sub_cons 2 rfl (sub_cons 3 rfl (sub_cons 4 rfl (sub_cons 1 rfl (sub_cons 5 rfl sub_self)))))⟩
        refine ⟨hC, ?_⟩
        have hS := St.fr hS 0 rfl
        have hS : St B _ (Ass.box 75 a4 [sv e3 e7 c2] :: Ass.own 28 kS28 g4 g8 c0 :: Ass.box 28 a2 [ia 3, ia 0, ia 1, ia 1, ib 65536, ib 0, ib 0] :: os) (Ro.sl kS28 (some a3) a1 a0 :: Ro.sl (Kd.int .i64) (some ⟨g0, 0, none⟩) 1 c1 :: Ro.sl kS28 e3 e7 c2 :: Ro.sl kS28 a6 a7 a5 :: Ro.sl (Kd.int .u8) b6 b7 b3 :: Ro.sl kS28 b4 b5 a9 :: Ro.sl kS28 (some ⟨b0, 0, none⟩) 2 a8 :: rs) := hS.re [] [] rfl (sub_cons 3 rfl (sub_cons 0 rfl (sub_cons 1 rfl (sub_cons 2 rfl (sub_tail (sub_tail (sub_tail (sub_tail (sub_self)))))))))
        have hq := trace_Of.calls f7 hS
        refine ED.one 28 20 (bm 49 536870911) (by kernel_rfl) (by kernel_rfl) (by kernel_rfl) (EO.callD 19 [sv (some a3) a1 a0, sv (some ⟨g0, 0, none⟩) 1 c1] _ 49 (by kernel_rfl) (by kernel_rfl) (by kernel_rfl) hq ?_)
        rintro v w ⟨j0, j4, rfl, hS⟩
        have hC := hC.again ⟨_, _, hS.re [3] [] rfl (sub_cons 0 rfl (sub_cons 4 rfl (sub_cons 5 rfl (sub_cons 3 rfl (sub_cons 6 rfl sub_self)))))⟩
        refine ⟨hC, ?_⟩
        refine ED.quick hN hF hC [29] [2, 3, 46, 50] 19 [(2, pt a2 0), (3, sv (some a3) a1 a0), (46, .bool (true)), (50, ia (c3.length : Int))] (bm 49 1073741823) (by kernel_rfl) (by kernel_rfl) ?_
        refine ED.keep [2, 3, 46, 50] [(2, pt a2 0), (3, sv (some a3) a1 a0), (46, .bool (true)), (50, ia (c3.length : Int))] (by kernel_rfl) ?_
        refine ED.as' [(2, pt a2 0), (3, sv (some a3) a1 a0), (46, .bool (true)), (50, ia 1)] (by simp only [encS28, sv, d6]) ?_
        refine ED.quick hN hF hC [30, 31, 32, 33] [2, 53, 54] 15 [(2, pt a2 0), (53, .bool (true)), (54, sv (some a3) a1 a0)] (bm 49 17179869183) (by kernel_rfl) (by kernel_rfl) ?_
        refine ED.one 34 14 (bm 49 34359738367) (by kernel_rfl) (by kernel_rfl) (by kernel_rfl) (EO.lit hS (Kd.int .i64) 3 24 1 #[(0, ia 1)] [ia 1] c7 55 (by kernel_rfl) (by kernel_rfl) (by kernel_rfl) (fun _ => (by kernel_rfl)) (by rw [d7]; rfl) (by kernel_rfl) (fun w G hr => (by rw [d7]; exact ⟨[ia 1], [], rfl, rfl, rfl⟩)) ?_)
        intro i2 w hS
        have hC := hC.again ⟨_, _, hS.re [4] [] rfl (sub_cons 0 rfl (sub_cons 4 rfl (sub_cons 5 rfl (sub_cons 3 rfl (sub_cons 6 rfl sub_self)))))⟩
        refine ⟨hC, ?_⟩
        have hS := St.fr hS 0 rfl
        have hS : St B _ (Ass.own 28 kS28 j0 j4 c3 :: Ass.box 75 a4 [sv e3 e7 c2] :: Ass.own 28 kS28 g4 g8 c0 :: Ass.box 28 a2 [ia 3, ia 0, ia 1, ia 1, ib 65536, ib 0, ib 0] :: os) (Ro.sl kS28 (some a3) a1 a0 :: Ro.sl (Kd.int .i64) (some ⟨i2, 0, none⟩) 1 c7 :: Ro.sl (Kd.int .i64) (some ⟨g0, 0, none⟩) 1 c1 :: Ro.sl kS28 e3 e7 c2 :: Ro.sl kS28 a6 a7 a5 :: Ro.sl (Kd.int .u8) b6 b7 b3 :: Ro.sl kS28 b4 b5 a9 :: Ro.sl kS28 (some ⟨b0, 0, none⟩) 2 a8 :: rs) := hS.re [] [] rfl (sub_cons 1 rfl (sub_cons 0 rfl (sub_tail (sub_tail (sub_self)))))
        have hq := trace_Kinds.calls g2 hS
        refine ED.one 35 13 (bm 49 68719476735) (by kernel_rfl) (by kernel_rfl) (by kernel_rfl) (EO.callD 21 [sv (some a3) a1 a0, sv (some ⟨i2, 0, none⟩) 1 c7] _ 56 (by kernel_rfl) (by kernel_rfl) (by kernel_rfl) hq ?_)
        rintro v w ⟨m5, o0, rfl, hS⟩
        have hC := hC.again ⟨_, _, hS.re [4] [] rfl (sub_cons 0 rfl (sub_cons 5 rfl (sub_cons 6 rfl (sub_cons 4 rfl (sub_cons 7 rfl sub_self)))))⟩
        refine ⟨hC, ?_⟩
        refine ED.quick hN hF hC [36] [2, 53, 57] 12 [(2, pt a2 0), (53, .bool (true)), (57, ia (d1.length : Int))] (bm 49 137438953471) (by kernel_rfl) (by kernel_rfl) ?_
        refine ED.keep [2, 53, 57] [(2, pt a2 0), (53, .bool (true)), (57, ia (d1.length : Int))] (by kernel_rfl) ?_
        refine ED.as' [(2, pt a2 0), (53, .bool (true)), (57, ia 1)] (by simp only [encS28, sv, d9]) ?_
        refine ED.quick hN hF hC [37, 38, 39] [2, 60] 9 [(2, pt a2 0), (60, .bool (true))] (bm 49 1099511627775) (by kernel_rfl) (by kernel_rfl) ?_
        refine ED.Y hN hF hC 40 8 (bm 49 2199023255551) (by kernel_rfl) (by kernel_rfl) rfl (fun _ _ _ hS => YO.loadBox hS 0 rfl 28 0 7 (ag [ia 3, ia 0, ia 1, ia 1, ib 65536, ib 0, ib 0]) 61 (by kernel_rfl) (by kernel_rfl) (by kernel_rfl) (by kernel_rfl)) ?_
        have hq := trace_Right.calls i5 hS
        refine ED.one 41 7 (bm 49 4398046511103) (by kernel_rfl) (by kernel_rfl) (by kernel_rfl) (EO.callD 23 [ag [ia 3, ia 0, ia 1, ia 1, ib 65536, ib 0, ib 0]] _ 62 (by kernel_rfl) (by kernel_rfl) (by kernel_rfl) hq ?_)
        rintro v w ⟨rfl, hS⟩
        have hC := hC.again ⟨_, _, hS.re [4] [] rfl (sub_cons 0 rfl (sub_cons 5 rfl (sub_cons 6 rfl (sub_cons 4 rfl (sub_cons 7 rfl sub_self)))))⟩
        refine ⟨hC, ?_⟩
        refine ED.quick hN hF hC [42, 43] [64] 5 [(64, .bool (d5))] (bm 49 17592186044415) (by kernel_rfl) (by kernel_rfl) ?_
        refine ED.keep [64] [(64, .bool (d5))] (by kernel_rfl) ?_
        refine ED.as' [(64, .bool (false))] (by simp only [encS28, sv, (Bool.eq_false_iff.2 e9), Bool.not_true, Bool.not_false]) ?_
        refine ED.quick hN hF hC [44, 45, 46, 47, 48] [0] 0 [(0, .bool (false))] (bm 49 562949953421311) (by kernel_rfl) (by kernel_rfl) ?_
        refine ED.done (by kernel_rfl) ?_
        refine EQ.code ?_
        refine EW.ret (by kernel_rfl) ?_
        obtain rfl := Option.some.inj H
        exact EQ.leave (.bool (false)) (by kernel_rfl) ⟨_, rfl, rfl, (hS.re [] [0, 0, 0, 0, 0] rfl (sub_tail (sub_tail (sub_tail (sub_tail (sub_tail (sub_tail (sub_tail (sub_tail (sub_self))))))))))⟩
       rw [if_neg d9] at H
       have hS := hS.drew
       refine EW.dr (B := B) [Ass.box 28 a2 [ia 3, ia 0, ia 1, ia 1, ib 65536, ib 0, ib 0]] [Ro.sl kS28 (some a3) a1 a0, Ro.sl (Kd.int .u8) b6 b7 b3, Ro.sl kS28 b4 b5 a9, Ro.sl kS28 a6 a7 a5, Ro.sl kS28 (some ⟨b0, 0, none⟩) 2 a8] (by kernel_rfl) (by kernel_rfl) ?_
       have hN : Region.noSelect Cd11.r.r.r.r.r.r.l.ops = true := (by kernel_rfl)
       have hF : freeAll Cd11.r.r.r.r.r.r.l.ops = true := (by kernel_rfl)
       have hC : Core B [Ass.box 28 a2 [ia 3, ia 0, ia 1, ia 1, ib 65536, ib 0, ib 0]] [Ro.sl kS28 (some a3) a1 a0, Ro.sl (Kd.int .u8) b6 b7 b3, Ro.sl kS28 b4 b5 a9, Ro.sl kS28 a6 a7 a5, Ro.sl kS28 (some ⟨b0, 0, none⟩) 2 a8] _ := ⟨_, _, hS.re [1] [] rfl sub_self⟩
       refine ED.quick hN hF hC [0] [2, 3, 4, 21] 48 [(2, pt a2 0), (3, sv (some a3) a1 a0), (4, ia b9), (21, pt a4 0)] (bm 49 1) (by kernel_rfl) (by kernel_rfl) ?_
       refine ED.keep [2, 3, 4, 21] [(2, pt a2 0), (3, sv (some a3) a1 a0), (4, ia b9), (21, pt a4 0)] (by kernel_rfl) ?_
       refine ED.as' [(2, pt a2 0), (3, sv (some a3) a1 a0), (4, ia 0), (21, pt a4 0)] (by simp only [encS28, sv, c8]) ?_
       have hS : St B _ (Ass.box 75 a4 [sv a6 a7 a5] :: Ass.box 28 a2 [ia 3, ia 0, ia 1, ia 1, ib 65536, ib 0, ib 0] :: os) (Ro.sl kS28 a6 a7 a5 :: Ro.sl kS28 (some a3) a1 a0 :: Ro.sl (Kd.int .u8) b6 b7 b3 :: Ro.sl kS28 b4 b5 a9 :: Ro.sl kS28 (some ⟨b0, 0, none⟩) 2 a8 :: rs) := hS.re [0] [] rfl (sub_cons 3 rfl (sub_cons 0 rfl (sub_cons 1 rfl (sub_cons 2 rfl (sub_tail (sub_tail (sub_tail (sub_tail (sub_self)))))))))
       have hq := trace_Trace_All_18.calls d0 hS
       refine ED.one 1 47 (bm 49 3) (by kernel_rfl) (by kernel_rfl) (by kernel_rfl) (EO.callD 18 [pt a4 0] _ 22 (by kernel_rfl) (by kernel_rfl) (by kernel_rfl) hq ?_)
       rintro v w ⟨e4, e8, g5, g9, rfl, hS⟩
       have hC := hC.again ⟨_, _, hS.re [2] [] rfl (sub_cons 2 rfl (sub_cons 3 rfl (sub_cons 4 rfl (sub_cons 1 rfl (sub_cons 5 rfl sub_self)))))⟩
       refine ⟨hC, ?_⟩
       refine ED.quick hN hF hC [2] [2, 3, 4, 23] 46 [(2, pt a2 0), (3, sv (some a3) a1 a0), (4, ia 0), (23, ia (c0.length : Int))] (bm 49 7) (by kernel_rfl) (by kernel_rfl) ?_
       refine ED.keep [2, 3, 4, 23] [(2, pt a2 0), (3, sv (some a3) a1 a0), (4, ia 0), (23, ia (c0.length : Int))] (by kernel_rfl) ?_
       refine ED.as' [(2, pt a2 0), (3, sv (some a3) a1 a0), (4, ia 0), (23, ia 2)] (by simp only [encS28, sv, c6]) ?_
       refine ED.quick hN hF hC [3, 4, 5, 6, 7, 8, 9, 10] [2, 3, 29, 31] 38 [(2, pt a2 0), (3, sv (some a3) a1 a0), (29, .bool (true)), (31, ia (a0.length : Int))] (bm 49 2047) (by kernel_rfl) (by kernel_rfl) ?_
       refine ED.keep [2, 3, 29, 31] [(2, pt a2 0), (3, sv (some a3) a1 a0), (29, .bool (true)), (31, ia (a0.length : Int))] (by kernel_rfl) ?_
       refine ED.as' [(2, pt a2 0), (3, sv (some a3) a1 a0), (29, .bool (true)), (31, ia 2)] (by simp only [encS28, sv, c9]) ?_
       refine ED.quick hN hF hC [11, 12, 13, 14] [2, 3, 34, 35] 34 [(2, pt a2 0), (3, sv (some a3) a1 a0), (34, .bool (true)), (35, sv (some a3) a1 a0)] (bm 49 32767) (by kernel_rfl) (by kernel_rfl) ?_
       refine ED.Y hN hF hC 15 33 (bm 49 65535) (by kernel_rfl) (by kernel_rfl) rfl (fun _ _ _ hS => YO.idx 22 7 a3 a0.length a1 .i64 0 36 (by kernel_rfl) (by kernel_rfl) (by kernel_rfl) (by kernel_rfl) (by decide) c4) ?_
       refine ED.Y hN hF hC 16 32 (bm 49 131071) (by kernel_rfl) (by kernel_rfl) rfl (fun _ _ _ hS => YO.loadEl hS kS28 a3 a1 a0 (Rd.ro 0 rfl) zS28 encS28 encS28_of 0 (by decide) c4 28 7 0 7 rfl (ag (encS28 (a0.getD (0 : Int).toNat zS28))) 37 (by kernel_rfl) (by kernel_rfl) (by kernel_rfl) (by kernel_rfl)) ?_
       refine ED.Y hN hF hC 17 31 (bm 49 262143) (by kernel_rfl) (by kernel_rfl) rfl (fun _ _ _ hS => YO.loadBox hS 0 rfl 28 0 7 (ag [ia 3, ia 0, ia 1, ia 1, ib 65536, ib 0, ib 0]) 38 (by kernel_rfl) (by kernel_rfl) (by kernel_rfl) (by kernel_rfl)) ?_
       refine ED.Y hN hF hC 18 30 (bm 49 524287) (by kernel_rfl) (by kernel_rfl) rfl (fun _ _ _ hS => YO.eqAg .eql 28 (.tmp 37) (.tmp 38) #[ia ((a0.getD (0 : Int).toNat zS28).f0), ia ((a0.getD (0 : Int).toNat zS28).f1), ia ((a0.getD (0 : Int).toNat zS28).f2), ia ((a0.getD (0 : Int).toNat zS28).f3), ib ((a0.getD (0 : Int).toNat zS28).f4), ib ((a0.getD (0 : Int).toNat zS28).f5), ib ((a0.getD (0 : Int).toNat zS28).f6)] #[ia 3, ia 0, ia 1, ia 1, ib 65536, ib 0, ib 0] ((((a0.getD (0 : Int).toNat zS28).f0) == (3 : Int)) && ((((a0.getD (0 : Int).toNat zS28).f1) == (0 : Int)) && ((((a0.getD (0 : Int).toNat zS28).f2) == (1 : Int)) && ((((a0.getD (0 : Int).toNat zS28).f3) == (1 : Int)) && ((((a0.getD (0 : Int).toNat zS28).f4) == (65536 : Int)) && ((((a0.getD (0 : Int).toNat zS28).f5) == (0 : Int)) && ((((a0.getD (0 : Int).toNat zS28).f6) == (0 : Int)) && true))))))) (((((a0.getD (0 : Int).toNat zS28).f0) == (3 : Int)) && ((((a0.getD (0 : Int).toNat zS28).f1) == (0 : Int)) && ((((a0.getD (0 : Int).toNat zS28).f2) == (1 : Int)) && ((((a0.getD (0 : Int).toNat zS28).f3) == (1 : Int)) && ((((a0.getD (0 : Int).toNat zS28).f4) == (65536 : Int)) && ((((a0.getD (0 : Int).toNat zS28).f5) == (0 : Int)) && ((((a0.getD (0 : Int).toNat zS28).f6) == (0 : Int)) && true)))))))) 39 (by kernel_rfl) (by kernel_rfl) (by kernel_rfl) (by kernel_rfl) (by kernel_rfl) (.inl ⟨rfl, rfl⟩)) ?_
       refine ED.quick hN hF hC [19, 20] [2, 3, 41] 28 [(2, pt a2 0), (3, sv (some a3) a1 a0), (41, .bool (((((a0.getD (0 : Int).toNat zS28).f0) == (3 : Int)) && ((((a0.getD (0 : Int).toNat zS28).f1) == (0 : Int)) && ((((a0.getD (0 : Int).toNat zS28).f2) == (1 : Int)) && ((((a0.getD (0 : Int).toNat zS28).f3) == (1 : Int)) && ((((a0.getD (0 : Int).toNat zS28).f4) == (65536 : Int)) && ((((a0.getD (0 : Int).toNat zS28).f5) == (0 : Int)) && ((((a0.getD (0 : Int).toNat zS28).f6) == (0 : Int)) && true)))))))))] (bm 49 2097151) (by kernel_rfl) (by kernel_rfl) ?_
       refine ED.keep [2, 3, 41] [(2, pt a2 0), (3, sv (some a3) a1 a0), (41, .bool (((((a0.getD (0 : Int).toNat zS28).f0) == (3 : Int)) && ((((a0.getD (0 : Int).toNat zS28).f1) == (0 : Int)) && ((((a0.getD (0 : Int).toNat zS28).f2) == (1 : Int)) && ((((a0.getD (0 : Int).toNat zS28).f3) == (1 : Int)) && ((((a0.getD (0 : Int).toNat zS28).f4) == (65536 : Int)) && ((((a0.getD (0 : Int).toNat zS28).f5) == (0 : Int)) && ((((a0.getD (0 : Int).toNat zS28).f6) == (0 : Int)) && true)))))))))] (by kernel_rfl) ?_
       refine ED.as' [(2, pt a2 0), (3, sv (some a3) a1 a0), (41, .bool (true))] (by simp only [encS28, sv, d2, Bool.not_true, Bool.not_false]) ?_
       refine ED.Y hN hF hC 21 27 (bm 49 4194303) (by kernel_rfl) (by kernel_rfl) rfl (fun _ _ _ hS => YO.loadBox hS 0 rfl 28 0 7 (ag [ia 3, ia 0, ia 1, ia 1, ib 65536, ib 0, ib 0]) 42 (by kernel_rfl) (by kernel_rfl) (by kernel_rfl) (by kernel_rfl)) ?_
       have hq := trace_Text.calls e0 hS gB
       refine ED.one 22 26 (bm 49 8388607) (by kernel_rfl) (by kernel_rfl) (by kernel_rfl) (EO.callD 25 [ag [ia 3, ia 0, ia 1, ia 1, ib 65536, ib 0, ib 0]] _ 43 (by kernel_rfl) (by kernel_rfl) (by kernel_rfl) hq ?_)
       rintro v w ⟨rfl, hS⟩
       have hC := hC.again ⟨_, _, hS.re [2] [] rfl (sub_cons 2 rfl (sub_cons 3 rfl (sub_cons 4 rfl (sub_cons 1 rfl (sub_cons 5 rfl sub_self)))))⟩
       refine ⟨hC, ?_⟩
       refine ED.quick hN hF hC [23, 24, 25] [2, 3, 46] 23 [(2, pt a2 0), (3, sv (some a3) a1 a0), (46, .bool ((c5.toList == (⟨#[51, 32, 48, 32, 116, 97, 107, 101, 32, 49, 32, 54, 53, 53, 51, 54, 32, 48, 32, 48]⟩ : ByteArray).toList)))] (bm 49 67108863) (by kernel_rfl) (by kernel_rfl) ?_
       refine ED.keep [2, 3, 46] [(2, pt a2 0), (3, sv (some a3) a1 a0), (46, .bool ((c5.toList == (⟨#[51, 32, 48, 32, 116, 97, 107, 101, 32, 49, 32, 54, 53, 53, 51, 54, 32, 48, 32, 48]⟩ : ByteArray).toList)))] (by kernel_rfl) ?_
       refine ED.as' [(2, pt a2 0), (3, sv (some a3) a1 a0), (46, .bool (true))] (by simp only [encS28, sv, d4, Bool.not_true, Bool.not_false]) ?_
       refine ED.quick hN hF hC [26] [2, 3, 46, 47] 22 [(2, pt a2 0), (3, sv (some a3) a1 a0), (46, .bool (true)), (47, sv (some a3) a1 a0)] (bm 49 134217727) (by kernel_rfl) (by kernel_rfl) ?_
       refine ED.one 27 21 (bm 49 268435455) (by kernel_rfl) (by kernel_rfl) (by kernel_rfl) (EO.lit hS (Kd.int .i64) 3 24 1 #[(0, ia 2)] [ia 2] c1 48 (by kernel_rfl) (by kernel_rfl) (by kernel_rfl) (fun _ => (by kernel_rfl)) (by rw [d3]; rfl) (by kernel_rfl) (fun w G hr => (by rw [d3]; exact ⟨[ia 2], [], rfl, rfl, rfl⟩)) ?_)
       intro g1 w hS
       have hC := hC.again ⟨_, _, hS.re [3] [] rfl (sub_cons 2 rfl (sub_cons 3 rfl (sub_cons 4 rfl (sub_cons 1 rfl (sub_cons 5 rfl sub_self)))))⟩
       refine ⟨hC, ?_⟩
       have hS := St.fr hS 0 rfl
       have hS : St B _ (Ass.box 75 a4 [sv e4 e8 c2] :: Ass.own 28 kS28 g5 g9 c0 :: Ass.box 28 a2 [ia 3, ia 0, ia 1, ia 1, ib 65536, ib 0, ib 0] :: os) (Ro.sl kS28 (some a3) a1 a0 :: Ro.sl (Kd.int .i64) (some ⟨g1, 0, none⟩) 1 c1 :: Ro.sl kS28 e4 e8 c2 :: Ro.sl kS28 a6 a7 a5 :: Ro.sl (Kd.int .u8) b6 b7 b3 :: Ro.sl kS28 b4 b5 a9 :: Ro.sl kS28 (some ⟨b0, 0, none⟩) 2 a8 :: rs) := hS.re [] [] rfl (sub_cons 3 rfl (sub_cons 0 rfl (sub_cons 1 rfl (sub_cons 2 rfl (sub_tail (sub_tail (sub_tail (sub_tail (sub_self)))))))))
       have hq := trace_Of.calls f7 hS
       refine ED.one 28 20 (bm 49 536870911) (by kernel_rfl) (by kernel_rfl) (by kernel_rfl) (EO.callD 19 [sv (some a3) a1 a0, sv (some ⟨g1, 0, none⟩) 1 c1] _ 49 (by kernel_rfl) (by kernel_rfl) (by kernel_rfl) hq ?_)
       rintro v w ⟨j1, j5, rfl, hS⟩
       have hC := hC.again ⟨_, _, hS.re [3] [] rfl (sub_cons 0 rfl (sub_cons 4 rfl (sub_cons 5 rfl (sub_cons 3 rfl (sub_cons 6 rfl sub_self)))))⟩
       refine ⟨hC, ?_⟩
       refine ED.quick hN hF hC [29] [2, 3, 46, 50] 19 [(2, pt a2 0), (3, sv (some a3) a1 a0), (46, .bool (true)), (50, ia (c3.length : Int))] (bm 49 1073741823) (by kernel_rfl) (by kernel_rfl) ?_
       refine ED.keep [2, 3, 46, 50] [(2, pt a2 0), (3, sv (some a3) a1 a0), (46, .bool (true)), (50, ia (c3.length : Int))] (by kernel_rfl) ?_
       refine ED.as' [(2, pt a2 0), (3, sv (some a3) a1 a0), (46, .bool (true)), (50, ia 1)] (by simp only [encS28, sv, d6]) ?_
       refine ED.quick hN hF hC [30, 31, 32, 33] [2, 53, 54] 15 [(2, pt a2 0), (53, .bool (true)), (54, sv (some a3) a1 a0)] (bm 49 17179869183) (by kernel_rfl) (by kernel_rfl) ?_
       refine ED.one 34 14 (bm 49 34359738367) (by kernel_rfl) (by kernel_rfl) (by kernel_rfl) (EO.lit hS (Kd.int .i64) 3 24 1 #[(0, ia 1)] [ia 1] c7 55 (by kernel_rfl) (by kernel_rfl) (by kernel_rfl) (fun _ => (by kernel_rfl)) (by rw [d7]; rfl) (by kernel_rfl) (fun w G hr => (by rw [d7]; exact ⟨[ia 1], [], rfl, rfl, rfl⟩)) ?_)
       intro i3 w hS
       have hC := hC.again ⟨_, _, hS.re [4] [] rfl (sub_cons 0 rfl (sub_cons 4 rfl (sub_cons 5 rfl (sub_cons 3 rfl (sub_cons 6 rfl sub_self)))))⟩
       refine ⟨hC, ?_⟩
       have hS := St.fr hS 0 rfl
       have hS : St B _ (Ass.own 28 kS28 j1 j5 c3 :: Ass.box 75 a4 [sv e4 e8 c2] :: Ass.own 28 kS28 g5 g9 c0 :: Ass.box 28 a2 [ia 3, ia 0, ia 1, ia 1, ib 65536, ib 0, ib 0] :: os) (Ro.sl kS28 (some a3) a1 a0 :: Ro.sl (Kd.int .i64) (some ⟨i3, 0, none⟩) 1 c7 :: Ro.sl (Kd.int .i64) (some ⟨g1, 0, none⟩) 1 c1 :: Ro.sl kS28 e4 e8 c2 :: Ro.sl kS28 a6 a7 a5 :: Ro.sl (Kd.int .u8) b6 b7 b3 :: Ro.sl kS28 b4 b5 a9 :: Ro.sl kS28 (some ⟨b0, 0, none⟩) 2 a8 :: rs) := hS.re [] [] rfl (sub_cons 1 rfl (sub_cons 0 rfl (sub_tail (sub_tail (sub_self)))))
       have hq := trace_Kinds.calls g2 hS
       refine ED.one 35 13 (bm 49 68719476735) (by kernel_rfl) (by kernel_rfl) (by kernel_rfl) (EO.callD 21 [sv (some a3) a1 a0, sv (some ⟨i3, 0, none⟩) 1 c7] _ 56 (by kernel_rfl) (by kernel_rfl) (by kernel_rfl) hq ?_)
       rintro v w ⟨m6, o1, rfl, hS⟩
       have hC := hC.again ⟨_, _, hS.re [4] [] rfl (sub_cons 0 rfl (sub_cons 5 rfl (sub_cons 6 rfl (sub_cons 4 rfl (sub_cons 7 rfl sub_self)))))⟩
       refine ⟨hC, ?_⟩
       refine ED.quick hN hF hC [36, 37, 38, 39] [2, 60] 9 [(2, pt a2 0), (60, .bool (decide ((d1.length : Int) = 1)))] (bm 49 1099511627775) (by kernel_rfl) (by kernel_rfl) ?_
       refine ED.keep [2, 60] [(2, pt a2 0), (60, .bool (decide ((d1.length : Int) = 1)))] (by kernel_rfl) ?_
       refine ED.as' [(2, pt a2 0), (60, .bool (false))] (by simp only [encS28, sv, dec_f d9, Bool.not_true, Bool.not_false]) ?_
       refine ED.quick hN hF hC [40, 41, 42, 43, 44, 45, 46, 47, 48] [0] 0 [(0, .bool (false))] (bm 49 562949953421311) (by kernel_rfl) (by kernel_rfl) ?_
       refine ED.done (by kernel_rfl) ?_
       refine EQ.code ?_
       refine EW.ret (by kernel_rfl) ?_
       obtain rfl := Option.some.inj H
       exact EQ.leave (.bool (false)) (by kernel_rfl) ⟨_, rfl, rfl, (hS.re [] [0, 0, 0, 0, 0] rfl (sub_tail (sub_tail (sub_tail (sub_tail (sub_tail (sub_tail (sub_tail (sub_tail (sub_self))))))))))⟩
      rw [if_neg d6] at H
      have hS := hS.drew
      refine EW.dr (B := B) [Ass.box 28 a2 [ia 3, ia 0, ia 1, ia 1, ib 65536, ib 0, ib 0]] [Ro.sl kS28 (some a3) a1 a0, Ro.sl (Kd.int .u8) b6 b7 b3, Ro.sl kS28 b4 b5 a9, Ro.sl kS28 a6 a7 a5, Ro.sl kS28 (some ⟨b0, 0, none⟩) 2 a8] (by kernel_rfl) (by kernel_rfl) ?_
      have hN : Region.noSelect Cd11.r.r.r.r.r.r.l.ops = true := (by kernel_rfl)
      have hF : freeAll Cd11.r.r.r.r.r.r.l.ops = true := (by kernel_rfl)
      have hC : Core B [Ass.box 28 a2 [ia 3, ia 0, ia 1, ia 1, ib 65536, ib 0, ib 0]] [Ro.sl kS28 (some a3) a1 a0, Ro.sl (Kd.int .u8) b6 b7 b3, Ro.sl kS28 b4 b5 a9, Ro.sl kS28 a6 a7 a5, Ro.sl kS28 (some ⟨b0, 0, none⟩) 2 a8] _ := ⟨_, _, hS.re [1] [] rfl sub_self⟩
      refine ED.quick hN hF hC [0] [2, 3, 4, 21] 48 [(2, pt a2 0), (3, sv (some a3) a1 a0), (4, ia b9), (21, pt a4 0)] (bm 49 1) (by kernel_rfl) (by kernel_rfl) ?_
      refine ED.keep [2, 3, 4, 21] [(2, pt a2 0), (3, sv (some a3) a1 a0), (4, ia b9), (21, pt a4 0)] (by kernel_rfl) ?_
      refine ED.as' [(2, pt a2 0), (3, sv (some a3) a1 a0), (4, ia 0), (21, pt a4 0)] (by simp only [encS28, sv, c8]) ?_
      have hS : St B _ (Ass.box 75 a4 [sv a6 a7 a5] :: Ass.box 28 a2 [ia 3, ia 0, ia 1, ia 1, ib 65536, ib 0, ib 0] :: os) (Ro.sl kS28 a6 a7 a5 :: Ro.sl kS28 (some a3) a1 a0 :: Ro.sl (Kd.int .u8) b6 b7 b3 :: Ro.sl kS28 b4 b5 a9 :: Ro.sl kS28 (some ⟨b0, 0, none⟩) 2 a8 :: rs) := hS.re [0] [] rfl (sub_cons 3 rfl (sub_cons 0 rfl (sub_cons 1 rfl (sub_cons 2 rfl (sub_tail (sub_tail (sub_tail (sub_tail (sub_self)))))))))
      have hq := trace_Trace_All_18.calls d0 hS
      refine ED.one 1 47 (bm 49 3) (by kernel_rfl) (by kernel_rfl) (by kernel_rfl) (EO.callD 18 [pt a4 0] _ 22 (by kernel_rfl) (by kernel_rfl) (by kernel_rfl) hq ?_)
      rintro v w ⟨g6, i0, j2, j6, rfl, hS⟩
      have hC := hC.again ⟨_, _, hS.re [2] [] rfl (sub_cons 2 rfl (sub_cons 3 rfl (sub_cons 4 rfl (sub_cons 1 rfl (sub_cons 5 rfl sub_self)))))⟩
      refine ⟨hC, ?_⟩
      refine ED.quick hN hF hC [2] [2, 3, 4, 23] 46 [(2, pt a2 0), (3, sv (some a3) a1 a0), (4, ia 0), (23, ia (c0.length : Int))] (bm 49 7) (by kernel_rfl) (by kernel_rfl) ?_
      refine ED.keep [2, 3, 4, 23] [(2, pt a2 0), (3, sv (some a3) a1 a0), (4, ia 0), (23, ia (c0.length : Int))] (by kernel_rfl) ?_
      refine ED.as' [(2, pt a2 0), (3, sv (some a3) a1 a0), (4, ia 0), (23, ia 2)] (by simp only [encS28, sv, c6]) ?_
      refine ED.quick hN hF hC [3, 4, 5, 6, 7, 8, 9, 10] [2, 3, 29, 31] 38 [(2, pt a2 0), (3, sv (some a3) a1 a0), (29, .bool (true)), (31, ia (a0.length : Int))] (bm 49 2047) (by kernel_rfl) (by kernel_rfl) ?_
      refine ED.keep [2, 3, 29, 31] [(2, pt a2 0), (3, sv (some a3) a1 a0), (29, .bool (true)), (31, ia (a0.length : Int))] (by kernel_rfl) ?_
      refine ED.as' [(2, pt a2 0), (3, sv (some a3) a1 a0), (29, .bool (true)), (31, ia 2)] (by simp only [encS28, sv, c9]) ?_
      refine ED.quick hN hF hC [11, 12, 13, 14] [2, 3, 34, 35] 34 [(2, pt a2 0), (3, sv (some a3) a1 a0), (34, .bool (true)), (35, sv (some a3) a1 a0)] (bm 49 32767) (by kernel_rfl) (by kernel_rfl) ?_
      refine ED.Y hN hF hC 15 33 (bm 49 65535) (by kernel_rfl) (by kernel_rfl) rfl (fun _ _ _ hS => YO.idx 22 7 a3 a0.length a1 .i64 0 36 (by kernel_rfl) (by kernel_rfl) (by kernel_rfl) (by kernel_rfl) (by decide) c4) ?_
      refine ED.Y hN hF hC 16 32 (bm 49 131071) (by kernel_rfl) (by kernel_rfl) rfl (fun _ _ _ hS => YO.loadEl hS kS28 a3 a1 a0 (Rd.ro 0 rfl) zS28 encS28 encS28_of 0 (by decide) c4 28 7 0 7 rfl (ag (encS28 (a0.getD (0 : Int).toNat zS28))) 37 (by kernel_rfl) (by kernel_rfl) (by kernel_rfl) (by kernel_rfl)) ?_
      refine ED.Y hN hF hC 17 31 (bm 49 262143) (by kernel_rfl) (by kernel_rfl) rfl (fun _ _ _ hS => YO.loadBox hS 0 rfl 28 0 7 (ag [ia 3, ia 0, ia 1, ia 1, ib 65536, ib 0, ib 0]) 38 (by kernel_rfl) (by kernel_rfl) (by kernel_rfl) (by kernel_rfl)) ?_
      refine ED.Y hN hF hC 18 30 (bm 49 524287) (by kernel_rfl) (by kernel_rfl) rfl (fun _ _ _ hS => YO.eqAg .eql 28 (.tmp 37) (.tmp 38) #[ia ((a0.getD (0 : Int).toNat zS28).f0), ia ((a0.getD (0 : Int).toNat zS28).f1), ia ((a0.getD (0 : Int).toNat zS28).f2), ia ((a0.getD (0 : Int).toNat zS28).f3), ib ((a0.getD (0 : Int).toNat zS28).f4), ib ((a0.getD (0 : Int).toNat zS28).f5), ib ((a0.getD (0 : Int).toNat zS28).f6)] #[ia 3, ia 0, ia 1, ia 1, ib 65536, ib 0, ib 0] ((((a0.getD (0 : Int).toNat zS28).f0) == (3 : Int)) && ((((a0.getD (0 : Int).toNat zS28).f1) == (0 : Int)) && ((((a0.getD (0 : Int).toNat zS28).f2) == (1 : Int)) && ((((a0.getD (0 : Int).toNat zS28).f3) == (1 : Int)) && ((((a0.getD (0 : Int).toNat zS28).f4) == (65536 : Int)) && ((((a0.getD (0 : Int).toNat zS28).f5) == (0 : Int)) && ((((a0.getD (0 : Int).toNat zS28).f6) == (0 : Int)) && true))))))) (((((a0.getD (0 : Int).toNat zS28).f0) == (3 : Int)) && ((((a0.getD (0 : Int).toNat zS28).f1) == (0 : Int)) && ((((a0.getD (0 : Int).toNat zS28).f2) == (1 : Int)) && ((((a0.getD (0 : Int).toNat zS28).f3) == (1 : Int)) && ((((a0.getD (0 : Int).toNat zS28).f4) == (65536 : Int)) && ((((a0.getD (0 : Int).toNat zS28).f5) == (0 : Int)) && ((((a0.getD (0 : Int).toNat zS28).f6) == (0 : Int)) && true)))))))) 39 (by kernel_rfl) (by kernel_rfl) (by kernel_rfl) (by kernel_rfl) (by kernel_rfl) (.inl ⟨rfl, rfl⟩)) ?_
      refine ED.quick hN hF hC [19, 20] [2, 3, 41] 28 [(2, pt a2 0), (3, sv (some a3) a1 a0), (41, .bool (((((a0.getD (0 : Int).toNat zS28).f0) == (3 : Int)) && ((((a0.getD (0 : Int).toNat zS28).f1) == (0 : Int)) && ((((a0.getD (0 : Int).toNat zS28).f2) == (1 : Int)) && ((((a0.getD (0 : Int).toNat zS28).f3) == (1 : Int)) && ((((a0.getD (0 : Int).toNat zS28).f4) == (65536 : Int)) && ((((a0.getD (0 : Int).toNat zS28).f5) == (0 : Int)) && ((((a0.getD (0 : Int).toNat zS28).f6) == (0 : Int)) && true)))))))))] (bm 49 2097151) (by kernel_rfl) (by kernel_rfl) ?_
      refine ED.keep [2, 3, 41] [(2, pt a2 0), (3, sv (some a3) a1 a0), (41, .bool (((((a0.getD (0 : Int).toNat zS28).f0) == (3 : Int)) && ((((a0.getD (0 : Int).toNat zS28).f1) == (0 : Int)) && ((((a0.getD (0 : Int).toNat zS28).f2) == (1 : Int)) && ((((a0.getD (0 : Int).toNat zS28).f3) == (1 : Int)) && ((((a0.getD (0 : Int).toNat zS28).f4) == (65536 : Int)) && ((((a0.getD (0 : Int).toNat zS28).f5) == (0 : Int)) && ((((a0.getD (0 : Int).toNat zS28).f6) == (0 : Int)) && true)))))))))] (by kernel_rfl) ?_
      refine ED.as' [(2, pt a2 0), (3, sv (some a3) a1 a0), (41, .bool (true))] (by simp only [encS28, sv, d2, Bool.not_true, Bool.not_false]) ?_
      refine ED.Y hN hF hC 21 27 (bm 49 4194303) (by kernel_rfl) (by kernel_rfl) rfl (fun _ _ _ hS => YO.loadBox hS 0 rfl 28 0 7 (ag [ia 3, ia 0, ia 1, ia 1, ib 65536, ib 0, ib 0]) 42 (by kernel_rfl) (by kernel_rfl) (by kernel_rfl) (by kernel_rfl)) ?_
      have hq := trace_Text.calls e0 hS gB
      refine ED.one 22 26 (bm 49 8388607) (by kernel_rfl) (by kernel_rfl) (by kernel_rfl) (EO.callD 25 [ag [ia 3, ia 0, ia 1, ia 1, ib 65536, ib 0, ib 0]] _ 43 (by kernel_rfl) (by kernel_rfl) (by kernel_rfl) hq ?_)
      rintro v w ⟨rfl, hS⟩
      have hC := hC.again ⟨_, _, hS.re [2] [] rfl (sub_cons 2 rfl (sub_cons 3 rfl (sub_cons 4 rfl (sub_cons 1 rfl (sub_cons 5 rfl sub_self)))))⟩
      refine ⟨hC, ?_⟩
      refine ED.quick hN hF hC [23, 24, 25] [2, 3, 46] 23 [(2, pt a2 0), (3, sv (some a3) a1 a0), (46, .bool ((c5.toList == (⟨#[51, 32, 48, 32, 116, 97, 107, 101, 32, 49, 32, 54, 53, 53, 51, 54, 32, 48, 32, 48]⟩ : ByteArray).toList)))] (bm 49 67108863) (by kernel_rfl) (by kernel_rfl) ?_
      refine ED.keep [2, 3, 46] [(2, pt a2 0), (3, sv (some a3) a1 a0), (46, .bool ((c5.toList == (⟨#[51, 32, 48, 32, 116, 97, 107, 101, 32, 49, 32, 54, 53, 53, 51, 54, 32, 48, 32, 48]⟩ : ByteArray).toList)))] (by kernel_rfl) ?_
      refine ED.as' [(2, pt a2 0), (3, sv (some a3) a1 a0), (46, .bool (true))] (by simp only [encS28, sv, d4, Bool.not_true, Bool.not_false]) ?_
      refine ED.quick hN hF hC [26] [2, 3, 46, 47] 22 [(2, pt a2 0), (3, sv (some a3) a1 a0), (46, .bool (true)), (47, sv (some a3) a1 a0)] (bm 49 134217727) (by kernel_rfl) (by kernel_rfl) ?_
      refine ED.one 27 21 (bm 49 268435455) (by kernel_rfl) (by kernel_rfl) (by kernel_rfl) (EO.lit hS (Kd.int .i64) 3 24 1 #[(0, ia 2)] [ia 2] c1 48 (by kernel_rfl) (by kernel_rfl) (by kernel_rfl) (fun _ => (by kernel_rfl)) (by rw [d3]; rfl) (by kernel_rfl) (fun w G hr => (by rw [d3]; exact ⟨[ia 2], [], rfl, rfl, rfl⟩)) ?_)
      intro i4 w hS
      have hC := hC.again ⟨_, _, hS.re [3] [] rfl (sub_cons 2 rfl (sub_cons 3 rfl (sub_cons 4 rfl (sub_cons 1 rfl (sub_cons 5 rfl sub_self)))))⟩
      refine ⟨hC, ?_⟩
      have hS := St.fr hS 0 rfl
      have hS : St B _ (Ass.box 75 a4 [sv g6 i0 c2] :: Ass.own 28 kS28 j2 j6 c0 :: Ass.box 28 a2 [ia 3, ia 0, ia 1, ia 1, ib 65536, ib 0, ib 0] :: os) (Ro.sl kS28 (some a3) a1 a0 :: Ro.sl (Kd.int .i64) (some ⟨i4, 0, none⟩) 1 c1 :: Ro.sl kS28 g6 i0 c2 :: Ro.sl kS28 a6 a7 a5 :: Ro.sl (Kd.int .u8) b6 b7 b3 :: Ro.sl kS28 b4 b5 a9 :: Ro.sl kS28 (some ⟨b0, 0, none⟩) 2 a8 :: rs) := hS.re [] [] rfl (sub_cons 3 rfl (sub_cons 0 rfl (sub_cons 1 rfl (sub_cons 2 rfl (sub_tail (sub_tail (sub_tail (sub_tail (sub_self)))))))))
      have hq := trace_Of.calls f7 hS
      refine ED.one 28 20 (bm 49 536870911) (by kernel_rfl) (by kernel_rfl) (by kernel_rfl) (EO.callD 19 [sv (some a3) a1 a0, sv (some ⟨i4, 0, none⟩) 1 c1] _ 49 (by kernel_rfl) (by kernel_rfl) (by kernel_rfl) hq ?_)
      rintro v w ⟨m7, o2, rfl, hS⟩
      have hC := hC.again ⟨_, _, hS.re [3] [] rfl (sub_cons 0 rfl (sub_cons 4 rfl (sub_cons 5 rfl (sub_cons 3 rfl (sub_cons 6 rfl sub_self)))))⟩
      refine ⟨hC, ?_⟩
      refine ED.quick hN hF hC [29, 30, 31, 32] [2, 3, 53] 16 [(2, pt a2 0), (3, sv (some a3) a1 a0), (53, .bool (decide ((c3.length : Int) = 1)))] (bm 49 8589934591) (by kernel_rfl) (by kernel_rfl) ?_
      refine ED.keep [2, 3, 53] [(2, pt a2 0), (3, sv (some a3) a1 a0), (53, .bool (decide ((c3.length : Int) = 1)))] (by kernel_rfl) ?_
      refine ED.as' [(2, pt a2 0), (3, sv (some a3) a1 a0), (53, .bool (false))] (by simp only [encS28, sv, dec_f d6, Bool.not_true, Bool.not_false]) ?_
      refine ED.quick hN hF hC [33, 34, 35, 36, 37, 38, 39, 40, 41, 42, 43, 44, 45, 46, 47, 48] [0] 0 [(0, .bool (false))] (bm 49 562949953421311) (by kernel_rfl) (by kernel_rfl) ?_
      refine ED.done (by kernel_rfl) ?_
      refine EQ.code ?_
      refine EW.ret (by kernel_rfl) ?_
      obtain rfl := Option.some.inj H
      exact EQ.leave (.bool (false)) (by kernel_rfl) ⟨_, rfl, rfl, (hS.re [] [0, 0, 0, 0] rfl (sub_tail (sub_tail (sub_tail (sub_tail (sub_tail (sub_tail (sub_tail (sub_self)))))))))⟩
     rw [if_neg d4] at H
     have hS := hS.drew
     refine EW.dr (B := B) [Ass.box 28 a2 [ia 3, ia 0, ia 1, ia 1, ib 65536, ib 0, ib 0]] [Ro.sl kS28 (some a3) a1 a0, Ro.sl (Kd.int .u8) b6 b7 b3, Ro.sl kS28 b4 b5 a9, Ro.sl kS28 a6 a7 a5, Ro.sl kS28 (some ⟨b0, 0, none⟩) 2 a8] (by kernel_rfl) (by kernel_rfl) ?_
     have hN : Region.noSelect Cd11.r.r.r.r.r.r.l.ops = true := (by kernel_rfl)
     have hF : freeAll Cd11.r.r.r.r.r.r.l.ops = true := (by kernel_rfl)
     have hC : Core B [Ass.box 28 a2 [ia 3, ia 0, ia 1, ia 1, ib 65536, ib 0, ib 0]] [Ro.sl kS28 (some a3) a1 a0, Ro.sl (Kd.int .u8) b6 b7 b3, Ro.sl kS28 b4 b5 a9, Ro.sl kS28 a6 a7 a5, Ro.sl kS28 (some ⟨b0, 0, none⟩) 2 a8] _ := ⟨_, _, hS.re [1] [] rfl sub_self⟩
     refine ED.quick hN hF hC [0] [2, 3, 4, 21] 48 [(2, pt a2 0), (3, sv (some a3) a1 a0), (4, ia b9), (21, pt a4 0)] (bm 49 1) (by kernel_rfl) (by kernel_rfl) ?_
     refine ED.keep [2, 3, 4, 21] [(2, pt a2 0), (3, sv (some a3) a1 a0), (4, ia b9), (21, pt a4 0)] (by kernel_rfl) ?_
     refine ED.as' [(2, pt a2 0), (3, sv (some a3) a1 a0), (4, ia 0), (21, pt a4 0)] (by simp only [encS28, sv, c8]) ?_
     have hS : St B _ (Ass.box 75 a4 [sv a6 a7 a5] :: Ass.box 28 a2 [ia 3, ia 0, ia 1, ia 1, ib 65536, ib 0, ib 0] :: os) (Ro.sl kS28 a6 a7 a5 :: Ro.sl kS28 (some a3) a1 a0 :: Ro.sl (Kd.int .u8) b6 b7 b3 :: Ro.sl kS28 b4 b5 a9 :: Ro.sl kS28 (some ⟨b0, 0, none⟩) 2 a8 :: rs) := hS.re [0] [] rfl (sub_cons 3 rfl (sub_cons 0 rfl (sub_cons 1 rfl (sub_cons 2 rfl (sub_tail (sub_tail (sub_tail (sub_tail (sub_self)))))))))
     have hq := trace_Trace_All_18.calls d0 hS
     refine ED.one 1 47 (bm 49 3) (by kernel_rfl) (by kernel_rfl) (by kernel_rfl) (EO.callD 18 [pt a4 0] _ 22 (by kernel_rfl) (by kernel_rfl) (by kernel_rfl) hq ?_)
     rintro v w ⟨m8, o3, m9, o4, rfl, hS⟩
     have hC := hC.again ⟨_, _, hS.re [2] [] rfl (sub_cons 2 rfl (sub_cons 3 rfl (sub_cons 4 rfl (sub_cons 1 rfl (sub_cons 5 rfl sub_self)))))⟩
     refine ⟨hC, ?_⟩
     refine ED.quick hN hF hC [2] [2, 3, 4, 23] 46 [(2, pt a2 0), (3, sv (some a3) a1 a0), (4, ia 0), (23, ia (c0.length : Int))] (bm 49 7) (by kernel_rfl) (by kernel_rfl) ?_
     refine ED.keep [2, 3, 4, 23] [(2, pt a2 0), (3, sv (some a3) a1 a0), (4, ia 0), (23, ia (c0.length : Int))] (by kernel_rfl) ?_
     refine ED.as' [(2, pt a2 0), (3, sv (some a3) a1 a0), (4, ia 0), (23, ia 2)] (by simp only [encS28, sv, c6]) ?_
     refine ED.quick hN hF hC [3, 4, 5, 6, 7, 8, 9, 10] [2, 3, 29, 31] 38 [(2, pt a2 0), (3, sv (some a3) a1 a0), (29, .bool (true)), (31, ia (a0.length : Int))] (bm 49 2047) (by kernel_rfl) (by kernel_rfl) ?_
     refine ED.keep [2, 3, 29, 31] [(2, pt a2 0), (3, sv (some a3) a1 a0), (29, .bool (true)), (31, ia (a0.length : Int))] (by kernel_rfl) ?_
     refine ED.as' [(2, pt a2 0), (3, sv (some a3) a1 a0), (29, .bool (true)), (31, ia 2)] (by simp only [encS28, sv, c9]) ?_
     refine ED.quick hN hF hC [11, 12, 13, 14] [2, 3, 34, 35] 34 [(2, pt a2 0), (3, sv (some a3) a1 a0), (34, .bool (true)), (35, sv (some a3) a1 a0)] (bm 49 32767) (by kernel_rfl) (by kernel_rfl) ?_
     refine ED.Y hN hF hC 15 33 (bm 49 65535) (by kernel_rfl) (by kernel_rfl) rfl (fun _ _ _ hS => YO.idx 22 7 a3 a0.length a1 .i64 0 36 (by kernel_rfl) (by kernel_rfl) (by kernel_rfl) (by kernel_rfl) (by decide) c4) ?_
     refine ED.Y hN hF hC 16 32 (bm 49 131071) (by kernel_rfl) (by kernel_rfl) rfl (fun _ _ _ hS => YO.loadEl hS kS28 a3 a1 a0 (Rd.ro 0 rfl) zS28 encS28 encS28_of 0 (by decide) c4 28 7 0 7 rfl (ag (encS28 (a0.getD (0 : Int).toNat zS28))) 37 (by kernel_rfl) (by kernel_rfl) (by kernel_rfl) (by kernel_rfl)) ?_
     refine ED.Y hN hF hC 17 31 (bm 49 262143) (by kernel_rfl) (by kernel_rfl) rfl (fun _ _ _ hS => YO.loadBox hS 0 rfl 28 0 7 (ag [ia 3, ia 0, ia 1, ia 1, ib 65536, ib 0, ib 0]) 38 (by kernel_rfl) (by kernel_rfl) (by kernel_rfl) (by kernel_rfl)) ?_
     refine ED.Y hN hF hC 18 30 (bm 49 524287) (by kernel_rfl) (by kernel_rfl) rfl (fun _ _ _ hS => YO.eqAg .eql 28 (.tmp 37) (.tmp 38) #[ia ((a0.getD (0 : Int).toNat zS28).f0), ia ((a0.getD (0 : Int).toNat zS28).f1), ia ((a0.getD (0 : Int).toNat zS28).f2), ia ((a0.getD (0 : Int).toNat zS28).f3), ib ((a0.getD (0 : Int).toNat zS28).f4), ib ((a0.getD (0 : Int).toNat zS28).f5), ib ((a0.getD (0 : Int).toNat zS28).f6)] #[ia 3, ia 0, ia 1, ia 1, ib 65536, ib 0, ib 0] ((((a0.getD (0 : Int).toNat zS28).f0) == (3 : Int)) && ((((a0.getD (0 : Int).toNat zS28).f1) == (0 : Int)) && ((((a0.getD (0 : Int).toNat zS28).f2) == (1 : Int)) && ((((a0.getD (0 : Int).toNat zS28).f3) == (1 : Int)) && ((((a0.getD (0 : Int).toNat zS28).f4) == (65536 : Int)) && ((((a0.getD (0 : Int).toNat zS28).f5) == (0 : Int)) && ((((a0.getD (0 : Int).toNat zS28).f6) == (0 : Int)) && true))))))) (((((a0.getD (0 : Int).toNat zS28).f0) == (3 : Int)) && ((((a0.getD (0 : Int).toNat zS28).f1) == (0 : Int)) && ((((a0.getD (0 : Int).toNat zS28).f2) == (1 : Int)) && ((((a0.getD (0 : Int).toNat zS28).f3) == (1 : Int)) && ((((a0.getD (0 : Int).toNat zS28).f4) == (65536 : Int)) && ((((a0.getD (0 : Int).toNat zS28).f5) == (0 : Int)) && ((((a0.getD (0 : Int).toNat zS28).f6) == (0 : Int)) && true)))))))) 39 (by kernel_rfl) (by kernel_rfl) (by kernel_rfl) (by kernel_rfl) (by kernel_rfl) (.inl ⟨rfl, rfl⟩)) ?_
     refine ED.quick hN hF hC [19, 20] [2, 3, 41] 28 [(2, pt a2 0), (3, sv (some a3) a1 a0), (41, .bool (((((a0.getD (0 : Int).toNat zS28).f0) == (3 : Int)) && ((((a0.getD (0 : Int).toNat zS28).f1) == (0 : Int)) && ((((a0.getD (0 : Int).toNat zS28).f2) == (1 : Int)) && ((((a0.getD (0 : Int).toNat zS28).f3) == (1 : Int)) && ((((a0.getD (0 : Int).toNat zS28).f4) == (65536 : Int)) && ((((a0.getD (0 : Int).toNat zS28).f5) == (0 : Int)) && ((((a0.getD (0 : Int).toNat zS28).f6) == (0 : Int)) && true)))))))))] (bm 49 2097151) (by kernel_rfl) (by kernel_rfl) ?_
     refine ED.keep [2, 3, 41] [(2, pt a2 0), (3, sv (some a3) a1 a0), (41, .bool (((((a0.getD (0 : Int).toNat zS28).f0) == (3 : Int)) && ((((a0.getD (0 : Int).toNat zS28).f1) == (0 : Int)) && ((((a0.getD (0 : Int).toNat zS28).f2) == (1 : Int)) && ((((a0.getD (0 : Int).toNat zS28).f3) == (1 : Int)) && ((((a0.getD (0 : Int).toNat zS28).f4) == (65536 : Int)) && ((((a0.getD (0 : Int).toNat zS28).f5) == (0 : Int)) && ((((a0.getD (0 : Int).toNat zS28).f6) == (0 : Int)) && true)))))))))] (by kernel_rfl) ?_
     refine ED.as' [(2, pt a2 0), (3, sv (some a3) a1 a0), (41, .bool (true))] (by simp only [encS28, sv, d2, Bool.not_true, Bool.not_false]) ?_
     refine ED.Y hN hF hC 21 27 (bm 49 4194303) (by kernel_rfl) (by kernel_rfl) rfl (fun _ _ _ hS => YO.loadBox hS 0 rfl 28 0 7 (ag [ia 3, ia 0, ia 1, ia 1, ib 65536, ib 0, ib 0]) 42 (by kernel_rfl) (by kernel_rfl) (by kernel_rfl) (by kernel_rfl)) ?_
     have hq := trace_Text.calls e0 hS gB
     refine ED.one 22 26 (bm 49 8388607) (by kernel_rfl) (by kernel_rfl) (by kernel_rfl) (EO.callD 25 [ag [ia 3, ia 0, ia 1, ia 1, ib 65536, ib 0, ib 0]] _ 43 (by kernel_rfl) (by kernel_rfl) (by kernel_rfl) hq ?_)
     rintro v w ⟨rfl, hS⟩
     have hC := hC.again ⟨_, _, hS.re [2] [] rfl (sub_cons 2 rfl (sub_cons 3 rfl (sub_cons 4 rfl (sub_cons 1 rfl (sub_cons 5 rfl sub_self)))))⟩
     refine ⟨hC, ?_⟩
     refine ED.quick hN hF hC [23, 24, 25] [2, 3, 46] 23 [(2, pt a2 0), (3, sv (some a3) a1 a0), (46, .bool ((c5.toList == (⟨#[51, 32, 48, 32, 116, 97, 107, 101, 32, 49, 32, 54, 53, 53, 51, 54, 32, 48, 32, 48]⟩ : ByteArray).toList)))] (bm 49 67108863) (by kernel_rfl) (by kernel_rfl) ?_
     refine ED.keep [2, 3, 46] [(2, pt a2 0), (3, sv (some a3) a1 a0), (46, .bool ((c5.toList == (⟨#[51, 32, 48, 32, 116, 97, 107, 101, 32, 49, 32, 54, 53, 53, 51, 54, 32, 48, 32, 48]⟩ : ByteArray).toList)))] (by kernel_rfl) ?_
     refine ED.as' [(2, pt a2 0), (3, sv (some a3) a1 a0), (46, .bool (false))] (by simp only [encS28, sv, (Bool.eq_false_iff.2 d4), Bool.not_true, Bool.not_false]) ?_
     refine ED.quick hN hF hC [26, 27, 28, 29, 30, 31, 32, 33, 34, 35, 36, 37, 38, 39, 40, 41, 42, 43, 44, 45, 46, 47, 48] [0] 0 [(0, .bool (false))] (bm 49 562949953421311) (by kernel_rfl) (by kernel_rfl) ?_
     refine ED.done (by kernel_rfl) ?_
     refine EQ.code ?_
     refine EW.ret (by kernel_rfl) ?_
     obtain rfl := Option.some.inj H
     exact EQ.leave (.bool (false)) (by kernel_rfl) ⟨_, rfl, rfl, (hS.re [] [0, 0, 0] rfl (sub_tail (sub_tail (sub_tail (sub_tail (sub_tail (sub_tail (sub_self))))))))⟩
    rw [if_neg d2] at H
    have hS := hS.drew
    refine EW.dr (B := B) [Ass.box 28 a2 [ia 3, ia 0, ia 1, ia 1, ib 65536, ib 0, ib 0]] [Ro.sl kS28 (some a3) a1 a0, Ro.sl (Kd.int .u8) b6 b7 b3, Ro.sl kS28 b4 b5 a9, Ro.sl kS28 a6 a7 a5, Ro.sl kS28 (some ⟨b0, 0, none⟩) 2 a8] (by kernel_rfl) (by kernel_rfl) ?_
    have hN : Region.noSelect Cd11.r.r.r.r.r.r.l.ops = true := (by kernel_rfl)
    have hF : freeAll Cd11.r.r.r.r.r.r.l.ops = true := (by kernel_rfl)
    have hC : Core B [Ass.box 28 a2 [ia 3, ia 0, ia 1, ia 1, ib 65536, ib 0, ib 0]] [Ro.sl kS28 (some a3) a1 a0, Ro.sl (Kd.int .u8) b6 b7 b3, Ro.sl kS28 b4 b5 a9, Ro.sl kS28 a6 a7 a5, Ro.sl kS28 (some ⟨b0, 0, none⟩) 2 a8] _ := ⟨_, _, hS.re [1] [] rfl sub_self⟩
    refine ED.quick hN hF hC [0] [2, 3, 4, 21] 48 [(2, pt a2 0), (3, sv (some a3) a1 a0), (4, ia b9), (21, pt a4 0)] (bm 49 1) (by kernel_rfl) (by kernel_rfl) ?_
    refine ED.keep [2, 3, 4, 21] [(2, pt a2 0), (3, sv (some a3) a1 a0), (4, ia b9), (21, pt a4 0)] (by kernel_rfl) ?_
    refine ED.as' [(2, pt a2 0), (3, sv (some a3) a1 a0), (4, ia 0), (21, pt a4 0)] (by simp only [encS28, sv, c8]) ?_
    have hS : St B _ (Ass.box 75 a4 [sv a6 a7 a5] :: Ass.box 28 a2 [ia 3, ia 0, ia 1, ia 1, ib 65536, ib 0, ib 0] :: os) (Ro.sl kS28 a6 a7 a5 :: Ro.sl kS28 (some a3) a1 a0 :: Ro.sl (Kd.int .u8) b6 b7 b3 :: Ro.sl kS28 b4 b5 a9 :: Ro.sl kS28 (some ⟨b0, 0, none⟩) 2 a8 :: rs) := hS.re [0] [] rfl (sub_cons 3 rfl (sub_cons 0 rfl (sub_cons 1 rfl (sub_cons 2 rfl (sub_tail (sub_tail (sub_tail (sub_tail (sub_self)))))))))
    have hq := trace_Trace_All_18.calls d0 hS
    refine ED.one 1 47 (bm 49 3) (by kernel_rfl) (by kernel_rfl) (by kernel_rfl) (EO.callD 18 [pt a4 0] _ 22 (by kernel_rfl) (by kernel_rfl) (by kernel_rfl) hq ?_)
    rintro v w ⟨n0, o5, n1, o6, rfl, hS⟩
    have hC := hC.again ⟨_, _, hS.re [2] [] rfl (sub_cons 2 rfl (sub_cons 3 rfl (sub_cons 4 rfl (sub_cons 1 rfl (sub_cons 5 rfl sub_self)))))⟩
    refine ⟨hC, ?_⟩
    refine ED.quick hN hF hC [2] [2, 3, 4, 23] 46 [(2, pt a2 0), (3, sv (some a3) a1 a0), (4, ia 0), (23, ia (c0.length : Int))] (bm 49 7) (by kernel_rfl) (by kernel_rfl) ?_
    refine ED.keep [2, 3, 4, 23] [(2, pt a2 0), (3, sv (some a3) a1 a0), (4, ia 0), (23, ia (c0.length : Int))] (by kernel_rfl) ?_
    refine ED.as' [(2, pt a2 0), (3, sv (some a3) a1 a0), (4, ia 0), (23, ia 2)] (by simp only [encS28, sv, c6]) ?_
    refine ED.quick hN hF hC [3, 4, 5, 6, 7, 8, 9, 10] [2, 3, 29, 31] 38 [(2, pt a2 0), (3, sv (some a3) a1 a0), (29, .bool (true)), (31, ia (a0.length : Int))] (bm 49 2047) (by kernel_rfl) (by kernel_rfl) ?_
    refine ED.keep [2, 3, 29, 31] [(2, pt a2 0), (3, sv (some a3) a1 a0), (29, .bool (true)), (31, ia (a0.length : Int))] (by kernel_rfl) ?_
    refine ED.as' [(2, pt a2 0), (3, sv (some a3) a1 a0), (29, .bool (true)), (31, ia 2)] (by simp only [encS28, sv, c9]) ?_
    refine ED.quick hN hF hC [11, 12, 13, 14] [2, 3, 34, 35] 34 [(2, pt a2 0), (3, sv (some a3) a1 a0), (34, .bool (true)), (35, sv (some a3) a1 a0)] (bm 49 32767) (by kernel_rfl) (by kernel_rfl) ?_
    refine ED.Y hN hF hC 15 33 (bm 49 65535) (by kernel_rfl) (by kernel_rfl) rfl (fun _ _ _ hS => YO.idx 22 7 a3 a0.length a1 .i64 0 36 (by kernel_rfl) (by kernel_rfl) (by kernel_rfl) (by kernel_rfl) (by decide) c4) ?_
    refine ED.Y hN hF hC 16 32 (bm 49 131071) (by kernel_rfl) (by kernel_rfl) rfl (fun _ _ _ hS => YO.loadEl hS kS28 a3 a1 a0 (Rd.ro 0 rfl) zS28 encS28 encS28_of 0 (by decide) c4 28 7 0 7 rfl (ag (encS28 (a0.getD (0 : Int).toNat zS28))) 37 (by kernel_rfl) (by kernel_rfl) (by kernel_rfl) (by kernel_rfl)) ?_
    refine ED.Y hN hF hC 17 31 (bm 49 262143) (by kernel_rfl) (by kernel_rfl) rfl (fun _ _ _ hS => YO.loadBox hS 0 rfl 28 0 7 (ag [ia 3, ia 0, ia 1, ia 1, ib 65536, ib 0, ib 0]) 38 (by kernel_rfl) (by kernel_rfl) (by kernel_rfl) (by kernel_rfl)) ?_
    refine ED.Y hN hF hC 18 30 (bm 49 524287) (by kernel_rfl) (by kernel_rfl) rfl (fun _ _ _ hS => YO.eqAg .eql 28 (.tmp 37) (.tmp 38) #[ia ((a0.getD (0 : Int).toNat zS28).f0), ia ((a0.getD (0 : Int).toNat zS28).f1), ia ((a0.getD (0 : Int).toNat zS28).f2), ia ((a0.getD (0 : Int).toNat zS28).f3), ib ((a0.getD (0 : Int).toNat zS28).f4), ib ((a0.getD (0 : Int).toNat zS28).f5), ib ((a0.getD (0 : Int).toNat zS28).f6)] #[ia 3, ia 0, ia 1, ia 1, ib 65536, ib 0, ib 0] ((((a0.getD (0 : Int).toNat zS28).f0) == (3 : Int)) && ((((a0.getD (0 : Int).toNat zS28).f1) == (0 : Int)) && ((((a0.getD (0 : Int).toNat zS28).f2) == (1 : Int)) && ((((a0.getD (0 : Int).toNat zS28).f3) == (1 : Int)) && ((((a0.getD (0 : Int).toNat zS28).f4) == (65536 : Int)) && ((((a0.getD (0 : Int).toNat zS28).f5) == (0 : Int)) && ((((a0.getD (0 : Int).toNat zS28).f6) == (0 : Int)) && true))))))) (((((a0.getD (0 : Int).toNat zS28).f0) == (3 : Int)) && ((((a0.getD (0 : Int).toNat zS28).f1) == (0 : Int)) && ((((a0.getD (0 : Int).toNat zS28).f2) == (1 : Int)) && ((((a0.getD (0 : Int).toNat zS28).f3) == (1 : Int)) && ((((a0.getD (0 : Int).toNat zS28).f4) == (65536 : Int)) && ((((a0.getD (0 : Int).toNat zS28).f5) == (0 : Int)) && ((((a0.getD (0 : Int).toNat zS28).f6) == (0 : Int)) && true)))))))) 39 (by kernel_rfl) (by kernel_rfl) (by kernel_rfl) (by kernel_rfl) (by kernel_rfl) (.inl ⟨rfl, rfl⟩)) ?_
    refine ED.quick hN hF hC [19, 20] [2, 3, 41] 28 [(2, pt a2 0), (3, sv (some a3) a1 a0), (41, .bool (((((a0.getD (0 : Int).toNat zS28).f0) == (3 : Int)) && ((((a0.getD (0 : Int).toNat zS28).f1) == (0 : Int)) && ((((a0.getD (0 : Int).toNat zS28).f2) == (1 : Int)) && ((((a0.getD (0 : Int).toNat zS28).f3) == (1 : Int)) && ((((a0.getD (0 : Int).toNat zS28).f4) == (65536 : Int)) && ((((a0.getD (0 : Int).toNat zS28).f5) == (0 : Int)) && ((((a0.getD (0 : Int).toNat zS28).f6) == (0 : Int)) && true)))))))))] (bm 49 2097151) (by kernel_rfl) (by kernel_rfl) ?_
    refine ED.keep [2, 3, 41] [(2, pt a2 0), (3, sv (some a3) a1 a0), (41, .bool (((((a0.getD (0 : Int).toNat zS28).f0) == (3 : Int)) && ((((a0.getD (0 : Int).toNat zS28).f1) == (0 : Int)) && ((((a0.getD (0 : Int).toNat zS28).f2) == (1 : Int)) && ((((a0.getD (0 : Int).toNat zS28).f3) == (1 : Int)) && ((((a0.getD (0 : Int).toNat zS28).f4) == (65536 : Int)) && ((((a0.getD (0 : Int).toNat zS28).f5) == (0 : Int)) && ((((a0.getD (0 : Int).toNat zS28).f6) == (0 : Int)) && true)))))))))] (by kernel_rfl) ?_
    refine ED.as' [(2, pt a2 0), (3, sv (some a3) a1 a0), (41, .bool (false))] (by simp only [encS28, sv, (Bool.eq_false_iff.2 d2), Bool.not_true, Bool.not_false]) ?_
    refine ED.quick hN hF hC [21, 22, 23, 24, 25, 26, 27, 28, 29, 30, 31, 32, 33, 34, 35, 36, 37, 38, 39, 40, 41, 42, 43, 44, 45, 46, 47, 48] [0] 0 [(0, .bool (false))] (bm 49 562949953421311) (by kernel_rfl) (by kernel_rfl) ?_
    refine ED.done (by kernel_rfl) ?_
    refine EQ.code ?_
    refine EW.ret (by kernel_rfl) ?_
    obtain rfl := Option.some.inj H
    exact EQ.leave (.bool (false)) (by kernel_rfl) ⟨_, rfl, rfl, (hS.re [] [0, 0, 0] rfl (sub_tail (sub_tail (sub_tail (sub_tail (sub_tail (sub_tail (sub_self))))))))⟩
   rw [if_neg c9] at H
   have hS := hS.drew
   refine EW.dr (B := B) [Ass.box 28 a2 [ia 3, ia 0, ia 1, ia 1, ib 65536, ib 0, ib 0]] [Ro.sl kS28 b8 a1 a0, Ro.sl (Kd.int .u8) b6 b7 b3, Ro.sl kS28 b4 b5 a9, Ro.sl kS28 a6 a7 a5, Ro.sl kS28 (some ⟨b0, 0, none⟩) 2 a8] (by kernel_rfl) (by kernel_rfl) ?_
   have hN : Region.noSelect Cd11.r.r.r.r.r.r.l.ops = true := (by kernel_rfl)
   have hF : freeAll Cd11.r.r.r.r.r.r.l.ops = true := (by kernel_rfl)
   have hC : Core B [Ass.box 28 a2 [ia 3, ia 0, ia 1, ia 1, ib 65536, ib 0, ib 0]] [Ro.sl kS28 b8 a1 a0, Ro.sl (Kd.int .u8) b6 b7 b3, Ro.sl kS28 b4 b5 a9, Ro.sl kS28 a6 a7 a5, Ro.sl kS28 (some ⟨b0, 0, none⟩) 2 a8] _ := ⟨_, _, hS.re [1] [] rfl sub_self⟩
   refine ED.quick hN hF hC [0] [2, 3, 4, 21] 48 [(2, pt a2 0), (3, sv b8 a1 a0), (4, ia b9), (21, pt a4 0)] (bm 49 1) (by kernel_rfl) (by kernel_rfl) ?_
   refine ED.keep [2, 3, 4, 21] [(2, pt a2 0), (3, sv b8 a1 a0), (4, ia b9), (21, pt a4 0)] (by kernel_rfl) ?_
   refine ED.as' [(2, pt a2 0), (3, sv b8 a1 a0), (4, ia 0), (21, pt a4 0)] (by simp only [encS28, sv, c8]) ?_
   have hS : St B _ (Ass.box 75 a4 [sv a6 a7 a5] :: Ass.box 28 a2 [ia 3, ia 0, ia 1, ia 1, ib 65536, ib 0, ib 0] :: os) (Ro.sl kS28 a6 a7 a5 :: Ro.sl kS28 b8 a1 a0 :: Ro.sl (Kd.int .u8) b6 b7 b3 :: Ro.sl kS28 b4 b5 a9 :: Ro.sl kS28 (some ⟨b0, 0, none⟩) 2 a8 :: rs) := hS.re [0] [] rfl (sub_cons 3 rfl (sub_cons 0 rfl (sub_cons 1 rfl (sub_cons 2 rfl (sub_tail (sub_tail (sub_tail (sub_tail (sub_self)))))))))
   have hq := trace_Trace_All_18.calls d0 hS
   refine ED.one 1 47 (bm 49 3) (by kernel_rfl) (by kernel_rfl) (by kernel_rfl) (EO.callD 18 [pt a4 0] _ 22 (by kernel_rfl) (by kernel_rfl) (by kernel_rfl) hq ?_)
   rintro v w ⟨n2, o7, n3, o8, rfl, hS⟩
   have hC := hC.again ⟨_, _, hS.re [2] [] rfl (sub_cons 2 rfl (sub_cons 3 rfl (sub_cons 4 rfl (sub_cons 1 rfl (sub_cons 5 rfl sub_self)))))⟩
   refine ⟨hC, ?_⟩
   refine ED.quick hN hF hC [2] [2, 3, 4, 23] 46 [(2, pt a2 0), (3, sv b8 a1 a0), (4, ia 0), (23, ia (c0.length : Int))] (bm 49 7) (by kernel_rfl) (by kernel_rfl) ?_
   refine ED.keep [2, 3, 4, 23] [(2, pt a2 0), (3, sv b8 a1 a0), (4, ia 0), (23, ia (c0.length : Int))] (by kernel_rfl) ?_
   refine ED.as' [(2, pt a2 0), (3, sv b8 a1 a0), (4, ia 0), (23, ia 2)] (by simp only [encS28, sv, c6]) ?_
   refine ED.quick hN hF hC [3, 4, 5, 6, 7, 8, 9, 10, 11, 12, 13] [2, 3, 34] 35 [(2, pt a2 0), (3, sv b8 a1 a0), (34, .bool (decide ((a0.length : Int) = 2)))] (bm 49 16383) (by kernel_rfl) (by kernel_rfl) ?_
   refine ED.keep [2, 3, 34] [(2, pt a2 0), (3, sv b8 a1 a0), (34, .bool (decide ((a0.length : Int) = 2)))] (by kernel_rfl) ?_
   refine ED.as' [(2, pt a2 0), (3, sv b8 a1 a0), (34, .bool (false))] (by simp only [encS28, sv, dec_f c9, Bool.not_true, Bool.not_false]) ?_
   refine ED.quick hN hF hC [14, 15, 16, 17, 18, 19, 20, 21, 22, 23, 24, 25, 26, 27, 28, 29, 30, 31, 32, 33, 34, 35, 36, 37, 38, 39, 40, 41, 42, 43, 44, 45, 46, 47, 48] [0] 0 [(0, .bool (false))] (bm 49 562949953421311) (by kernel_rfl) (by kernel_rfl) ?_
   refine ED.done (by kernel_rfl) ?_
   refine EQ.code ?_
   refine EW.ret (by kernel_rfl) ?_
   obtain rfl := Option.some.inj H
   exact EQ.leave (.bool (false)) (by kernel_rfl) ⟨_, rfl, rfl, (hS.re [] [0, 0, 0] rfl (sub_tail (sub_tail (sub_tail (sub_tail (sub_tail (sub_tail (sub_self))))))))⟩
  rw [if_neg c8] at H
  have hS := hS.drew
  refine EW.dr (B := B) [Ass.box 28 a2 [ia 3, ia 0, ia 1, ia 1, ib 65536, ib 0, ib 0]] [Ro.sl kS28 b8 a1 a0, Ro.sl (Kd.int .u8) b6 b7 b3, Ro.sl kS28 b4 b5 a9, Ro.sl kS28 a6 a7 a5, Ro.sl kS28 (some ⟨b0, 0, none⟩) 2 a8] (by kernel_rfl) (by kernel_rfl) ?_
  have hN : Region.noSelect Cd11.r.r.r.r.r.r.l.ops = true := (by kernel_rfl)
  have hF : freeAll Cd11.r.r.r.r.r.r.l.ops = true := (by kernel_rfl)
  have hC : Core B [Ass.box 28 a2 [ia 3, ia 0, ia 1, ia 1, ib 65536, ib 0, ib 0]] [Ro.sl kS28 b8 a1 a0, Ro.sl (Kd.int .u8) b6 b7 b3, Ro.sl kS28 b4 b5 a9, Ro.sl kS28 a6 a7 a5, Ro.sl kS28 (some ⟨b0, 0, none⟩) 2 a8] _ := ⟨_, _, hS.re [1] [] rfl sub_self⟩
  refine ED.quick hN hF hC [0] [2, 3, 4, 21] 48 [(2, pt a2 0), (3, sv b8 a1 a0), (4, ia b9), (21, pt a4 0)] (bm 49 1) (by kernel_rfl) (by kernel_rfl) ?_
  have hS : St B _ (Ass.box 75 a4 [sv a6 a7 a5] :: Ass.box 28 a2 [ia 3, ia 0, ia 1, ia 1, ib 65536, ib 0, ib 0] :: os) (Ro.sl kS28 a6 a7 a5 :: Ro.sl kS28 b8 a1 a0 :: Ro.sl (Kd.int .u8) b6 b7 b3 :: Ro.sl kS28 b4 b5 a9 :: Ro.sl kS28 (some ⟨b0, 0, none⟩) 2 a8 :: rs) := hS.re [0] [] rfl (sub_cons 3 rfl (sub_cons 0 rfl (sub_cons 1 rfl (sub_cons 2 rfl (sub_tail (sub_tail (sub_tail (sub_tail (sub_self)))))))))
  have hq := trace_Trace_All_18.calls d0 hS
  refine ED.one 1 47 (bm 49 3) (by kernel_rfl) (by kernel_rfl) (by kernel_rfl) (EO.callD 18 [pt a4 0] _ 22 (by kernel_rfl) (by kernel_rfl) (by kernel_rfl) hq ?_)
  rintro v w ⟨n4, o9, n5, p0, rfl, hS⟩
  have hC := hC.again ⟨_, _, hS.re [2] [] rfl (sub_cons 2 rfl (sub_cons 3 rfl (sub_cons 4 rfl (sub_cons 1 rfl (sub_cons 5 rfl sub_self)))))⟩
  refine ⟨hC, ?_⟩
  refine ED.quick hN hF hC [2] [2, 3, 4, 23] 46 [(2, pt a2 0), (3, sv b8 a1 a0), (4, ia b9), (23, ia (c0.length : Int))] (bm 49 7) (by kernel_rfl) (by kernel_rfl) ?_
  refine ED.keep [2, 3, 4, 23] [(2, pt a2 0), (3, sv b8 a1 a0), (4, ia b9), (23, ia (c0.length : Int))] (by kernel_rfl) ?_
  refine ED.as' [(2, pt a2 0), (3, sv b8 a1 a0), (4, ia b9), (23, ia 2)] (by simp only [encS28, sv, c6]) ?_
  refine ED.quick hN hF hC [3, 4, 5, 6, 7, 8] [2, 3, 29] 40 [(2, pt a2 0), (3, sv b8 a1 a0), (29, .bool (decide (b9 = 0)))] (bm 49 511) (by kernel_rfl) (by kernel_rfl) ?_
  refine ED.keep [2, 3, 29] [(2, pt a2 0), (3, sv b8 a1 a0), (29, .bool (decide (b9 = 0)))] (by kernel_rfl) ?_
  refine ED.as' [(2, pt a2 0), (3, sv b8 a1 a0), (29, .bool (false))] (by simp only [encS28, sv, dec_f c8, Bool.not_true, Bool.not_false]) ?_
  refine ED.quick hN hF hC [9, 10, 11, 12, 13, 14, 15, 16, 17, 18, 19, 20, 21, 22, 23, 24, 25, 26, 27, 28, 29, 30, 31, 32, 33, 34, 35, 36, 37, 38, 39, 40, 41, 42, 43, 44, 45, 46, 47, 48] [0] 0 [(0, .bool (false))] (bm 49 562949953421311) (by kernel_rfl) (by kernel_rfl) ?_
  refine ED.done (by kernel_rfl) ?_
  refine EQ.code ?_
  refine EW.ret (by kernel_rfl) ?_
  obtain rfl := Option.some.inj H
  exact EQ.leave (.bool (false)) (by kernel_rfl) ⟨_, rfl, rfl, (hS.re [] [0, 0, 0] rfl (sub_tail (sub_tail (sub_tail (sub_tail (sub_tail (sub_tail (sub_self))))))))⟩
 rw [if_neg c6] at H
 have hS := hS.drew
 refine EW.dr (B := B) [Ass.box 28 a2 [ia 3, ia 0, ia 1, ia 1, ib 65536, ib 0, ib 0]] [Ro.sl kS28 b8 a1 a0, Ro.sl (Kd.int .u8) b6 b7 b3, Ro.sl kS28 b4 b5 a9, Ro.sl kS28 a6 a7 a5, Ro.sl kS28 (some ⟨b0, 0, none⟩) 2 a8] (by kernel_rfl) (by kernel_rfl) ?_
 have hN : Region.noSelect Cd11.r.r.r.r.r.r.l.ops = true := (by kernel_rfl)
 have hF : freeAll Cd11.r.r.r.r.r.r.l.ops = true := (by kernel_rfl)
 have hC : Core B [Ass.box 28 a2 [ia 3, ia 0, ia 1, ia 1, ib 65536, ib 0, ib 0]] [Ro.sl kS28 b8 a1 a0, Ro.sl (Kd.int .u8) b6 b7 b3, Ro.sl kS28 b4 b5 a9, Ro.sl kS28 a6 a7 a5, Ro.sl kS28 (some ⟨b0, 0, none⟩) 2 a8] _ := ⟨_, _, hS.re [1] [] rfl sub_self⟩
 refine ED.quick hN hF hC [0] [2, 3, 4, 21] 48 [(2, pt a2 0), (3, sv b8 a1 a0), (4, ia b9), (21, pt a4 0)] (bm 49 1) (by kernel_rfl) (by kernel_rfl) ?_
 have hS : St B _ (Ass.box 75 a4 [sv a6 a7 a5] :: Ass.box 28 a2 [ia 3, ia 0, ia 1, ia 1, ib 65536, ib 0, ib 0] :: os) (Ro.sl kS28 a6 a7 a5 :: Ro.sl kS28 b8 a1 a0 :: Ro.sl (Kd.int .u8) b6 b7 b3 :: Ro.sl kS28 b4 b5 a9 :: Ro.sl kS28 (some ⟨b0, 0, none⟩) 2 a8 :: rs) := hS.re [0] [] rfl (sub_cons 3 rfl (sub_cons 0 rfl (sub_cons 1 rfl (sub_cons 2 rfl (sub_tail (sub_tail (sub_tail (sub_tail (sub_self)))))))))
 have hq := trace_Trace_All_18.calls d0 hS
 refine ED.one 1 47 (bm 49 3) (by kernel_rfl) (by kernel_rfl) (by kernel_rfl) (EO.callD 18 [pt a4 0] _ 22 (by kernel_rfl) (by kernel_rfl) (by kernel_rfl) hq ?_)
 rintro v w ⟨n6, p1, n7, p2, rfl, hS⟩
 have hC := hC.again ⟨_, _, hS.re [2] [] rfl (sub_cons 2 rfl (sub_cons 3 rfl (sub_cons 4 rfl (sub_cons 1 rfl (sub_cons 5 rfl sub_self)))))⟩
 refine ⟨hC, ?_⟩
 refine ED.quick hN hF hC [2, 3, 4] [2, 3, 4, 25] 44 [(2, pt a2 0), (3, sv b8 a1 a0), (4, ia b9), (25, .bool (decide ((c0.length : Int) = 2)))] (bm 49 31) (by kernel_rfl) (by kernel_rfl) ?_
 refine ED.keep [2, 3, 4, 25] [(2, pt a2 0), (3, sv b8 a1 a0), (4, ia b9), (25, .bool (decide ((c0.length : Int) = 2)))] (by kernel_rfl) ?_
 refine ED.as' [(2, pt a2 0), (3, sv b8 a1 a0), (4, ia b9), (25, .bool (false))] (by simp only [encS28, sv, dec_f c6, Bool.not_true, Bool.not_false]) ?_
 refine ED.quick hN hF hC [5, 6, 7, 8, 9, 10, 11, 12, 13, 14, 15, 16, 17, 18, 19, 20, 21, 22, 23, 24, 25, 26, 27, 28, 29, 30, 31, 32, 33, 34, 35, 36, 37, 38, 39, 40, 41, 42, 43, 44, 45, 46, 47, 48] [0] 0 [(0, .bool (false))] (bm 49 562949953421311) (by kernel_rfl) (by kernel_rfl) ?_
 refine ED.done (by kernel_rfl) ?_
 refine EQ.code ?_
 refine EW.ret (by kernel_rfl) ?_
 obtain rfl := Option.some.inj H
 exact EQ.leave (.bool (false)) (by kernel_rfl) ⟨_, rfl, rfl, (hS.re [] [0, 0, 0] rfl (sub_tail (sub_tail (sub_tail (sub_tail (sub_tail (sub_tail (sub_self))))))))⟩

end Go.Proofs.YtocdpimpkifdmaaDoor.G
