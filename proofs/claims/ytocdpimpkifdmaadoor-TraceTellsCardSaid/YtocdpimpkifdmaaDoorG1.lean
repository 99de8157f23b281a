import Derived.Test.YtocdpimpkifdmaaDoorProg
import Derived.Test.YtocdpimpkifdmaaDoorFwShort
import Derived.Test.YtocdpimpkifdmaaDoorFwOpen
import Derived.Test.YtocdpimpkifdmaaDoorDoor
import Derived.Test.YtocdpimpkifdmaaDoorG0
namespace Go.Proofs.YtocdpimpkifdmaaDoor.G
open Go Go.Fw Go.RowKit Go.Proofs
set_option linter.unusedVariables false
set_option linter.unusedSimpArgs false

/-! ### confidant/confidantlaw23.known: function 11 -/
def confidantlaw23_known.f (K : Nat)  : Option Bool := b1 (trace_New.f K) fun (d8 : List S28) => (lt ([(⟨3, 0, 1, 1, 65536, 0, 0⟩ : S28), (⟨0, 2, 10, 0, 0, (-1), 0⟩ : S28)] : List S28) fun a8 => (b1 (trace_Trace_Add.f K d8 a8) fun (i7 : List S28) => (b2 (trace_Trace_All.f K i7) fun (a5 : List S28) (a9 : List S28) => (b1 (trace_Put.f K a9) fun (b3 : List Int) => (b2 (trace_Read.f K b3) fun (a0 : List S28) (b9 : Int) => (b2 (trace_Trace_All_18.f K a5) fun (c2 : List S28) (c0 : List S28) => (if (c0.length : Int) = 2 then (if b9 = 0 then (if (a0.length : Int) = 2 then (if (0 : Int) < (a0.length : Int) then (if ((((a0.getD (0 : Int).toNat zS28).f0) == (3 : Int)) && ((((a0.getD (0 : Int).toNat zS28).f1) == (0 : Int)) && ((((a0.getD (0 : Int).toNat zS28).f2) == (1 : Int)) && ((((a0.getD (0 : Int).toNat zS28).f3) == (1 : Int)) && ((((a0.getD (0 : Int).toNat zS28).f4) == (65536 : Int)) && ((((a0.getD (0 : Int).toNat zS28).f5) == (0 : Int)) && ((((a0.getD (0 : Int).toNat zS28).f6) == (0 : Int)) && true))))))) = true then (b1 (trace_Text.f K (⟨3, 0, 1, 1, 65536, 0, 0⟩ : S28)) fun (c5 : ByteArray) => (if (c5.toList == (⟨#[51, 32, 48, 32, 116, 97, 107, 101, 32, 49, 32, 54, 53, 53, 51, 54, 32, 48, 32, 48]⟩ : ByteArray).toList) = true then (lt ([2] : List Int) fun c1 => (b1 (trace_Of.f K a0 c1) fun (c3 : List S28) => (if (c3.length : Int) = 1 then (lt ([1] : List Int) fun c7 => (b1 (trace_Kinds.f K a0 c7) fun (d1 : List S28) => (if (d1.length : Int) = 1 then (b1 (trace_Right.f K (⟨3, 0, 1, 1, 65536, 0, 0⟩ : S28)) fun (d5 : Bool) => (if d5 = true then (b1 (trace_Right.f K zS28) fun (f8 : Bool) => (some (!(f8)))) else (some false))) else (some false)))) else (some false)))) else (some false))) else (some false)) else none) else (some false)) else (some false)) else (some false))))))))
set_option maxRecDepth 100000 in
theorem confidantlaw23_known.calls {K : Nat} {i8 : Bool} {B w : World} {os : List Ass} {rs : List Ro} (H : confidantlaw23_known.f K = some i8) (hS : St B w (os) (rs)) (gB : Glob B) :
  Calls Tryd.prog 11 [].toArray w (fun en w' => ∃ v, en = .returned v ∧ v = .bool (i8) ∧ St B w' (os) (rs)) := by
 unfold confidantlaw23_known.f at H
 refine calls_of_EW (args := []) (c := Cd11) 69 Tryd.func11 (by kernel_rfl) (by kernel_rfl) (by kernel_rfl) ?_
 refine EW.sq (by kernel_rfl) ?_
 refine EW.rg (by kernel_rfl) ?_
 refine EL.quick 1 [] [] (by kernel_rfl) ?_
 refine EL.done (by kernel_rfl) ?_
 refine EQ.code ?_
 refine EW.sq (by kernel_rfl) ?_
 refine EW.rg (by kernel_rfl) ?_
 obtain ⟨d8, j7, H⟩ := b1_out H
 have hq := trace_New.calls j7 hS
 refine EL.of (EO.callD 13 [] _ 5 (by kernel_rfl) (by kernel_rfl) (by kernel_rfl) hq ?_)
 rintro v w ⟨a4, e1, e5, rfl, hS⟩
 refine EL.quick 1 [1] [(1, pt a4 0)] (by kernel_rfl) ?_
 refine EL.done (by kernel_rfl) ?_
 refine EQ.code ?_
 refine EW.sq (by kernel_rfl) ?_
 refine EW.sq (by kernel_rfl) ?_
 refine EW.rg (by kernel_rfl) ?_
 refine EL.quick 2 [1, 7] [(1, pt a4 0), (7, .bool (false))] (by kernel_rfl) ?_
 refine EL.done (by kernel_rfl) ?_
 refine EQ.code ?_
 refine EW.cdF (by kernel_rfl) (by kernel_rfl) ?_
 refine EW.skip (by kernel_rfl) ?_
 refine EQ.code ?_
 refine EW.sq (by kernel_rfl) ?_
 refine EW.rg (by kernel_rfl) ?_
 refine EL.quick 1 [1, 8] [(1, pt a4 0), (8, ag [ia 3, ia 0, ia 1, ia 1, ib 65536, ib 0, ib 0])] (by kernel_rfl) ?_
 refine EL.of (EO.alloc hS 28 (ag (encS28 zS28)) (encS28 zS28) 2 (by kernel_rfl) (by kernel_rfl) (by kernel_rfl) (by kernel_rfl) (by first | rfl | kernel_rfl) ?_)
 intro a2 w hS
 refine EL.of (EO.storeBox (os' := Ass.box 28 a2 [ia 3, ia 0, ia 1, ia 1, ib 65536, ib 0, ib 0] :: Ass.box 75 a4 [sv e1 e5 d8] :: Ass.own 28 kS28 e1 e5 d8 :: os) hS 0 rfl 28 0 (ag [ia 3, ia 0, ia 1, ia 1, ib 65536, ib 0, ib 0]) [ia 3, ia 0, ia 1, ia 1, ib 65536, ib 0, ib 0] (by kernel_rfl) (by kernel_rfl) (by kernel_rfl) (by kernel_rfl) (by kernel_rfl) (by kernel_rfl) rfl rfl ?_)
 intro w hS
 refine EL.done (by kernel_rfl) ?_
 refine EQ.code ?_
 refine EW.sq (by kernel_rfl) ?_
 refine EW.rg (by kernel_rfl) ?_
 refine EL.quick 1 [1, 2, 9] [(1, pt a4 0), (2, pt a2 0), (9, pt a4 0)] (by kernel_rfl) ?_
 refine EL.of (EO.Y (YO.loadBox hS 0 rfl 28 0 7 (ag [ia 3, ia 0, ia 1, ia 1, ib 65536, ib 0, ib 0]) 10 (by kernel_rfl) (by kernel_rfl) (by kernel_rfl) (by kernel_rfl)) ?_)
 refine EL.quick 1 [1, 2, 9, 10, 11] [(1, pt a4 0), (2, pt a2 0), (9, pt a4 0), (10, ag [ia 3, ia 0, ia 1, ia 1, ib 65536, ib 0, ib 0]), (11, ag [ia 0, ia 2, ia 10, ia 0, ib 0, ib (-1), ib 0])] (by kernel_rfl) ?_
 obtain ⟨a8, i6, H⟩ := lt_out H
 refine EL.of (EO.lit hS kS28 28 22 2 #[(0, ag [ia 3, ia 0, ia 1, ia 1, ib 65536, ib 0, ib 0]), (1, ag [ia 0, ia 2, ia 10, ia 0, ib 0, ib (-1), ib 0])] [ia 3, ia 0, ia 1, ia 1, ib 65536, ib 0, ib 0, ia 0, ia 2, ia 10, ia 0, ib 0, ib (-1), ib 0] a8 12 (by kernel_rfl) (by kernel_rfl) (by kernel_rfl) (fun _ => (by kernel_rfl)) (by rw [i6]; rfl) (by kernel_rfl) (fun w G hr => (by rw [i6]; exact ⟨[ia 3, ia 0, ia 1, ia 1, ib 65536, ib 0, ib 0], [ia 0, ia 2, ia 10, ia 0, ib 0, ib (-1), ib 0], rfl, ⟨[ia 3], [ia 0, ia 1, ia 1, ib 65536, ib 0, ib 0], rfl, rfl, ⟨[ia 0], [ia 1, ia 1, ib 65536, ib 0, ib 0], rfl, rfl, ⟨[ia 1], [ia 1, ib 65536, ib 0, ib 0], rfl, rfl, ⟨[ia 1], [ib 65536, ib 0, ib 0], rfl, rfl, ⟨[ib 65536], [ib 0, ib 0], rfl, rfl, ⟨[ib 0], [ib 0], rfl, rfl, ⟨[ib 0], [], rfl, rfl, rfl⟩⟩⟩⟩⟩⟩⟩, ⟨[ia 0, ia 2, ia 10, ia 0, ib 0, ib (-1), ib 0], [], rfl, ⟨[ia 0], [ia 2, ia 10, ia 0, ib 0, ib (-1), ib 0], rfl, rfl, ⟨[ia 2], [ia 10, ia 0, ib 0, ib (-1), ib 0], rfl, rfl, ⟨[ia 10], [ia 0, ib 0, ib (-1), ib 0], rfl, rfl, ⟨[ia 0], [ib 0, ib (-1), ib 0], rfl, rfl, ⟨[ib 0], [ib (-1), ib 0], rfl, rfl, ⟨[ib (-1)], [ib 0], rfl, rfl, ⟨[ib 0], [], rfl, rfl, rfl⟩⟩⟩⟩⟩⟩⟩, rfl⟩⟩)) ?_)
 intro b0 w hS
 have hS := St.fr hS 0 rfl
 have hS : St B _ (Ass.box 75 a4 [sv e1 e5 d8] :: Ass.own 28 kS28 e1 e5 d8 :: Ass.box 28 a2 [ia 3, ia 0, ia 1, ia 1, ib 65536, ib 0, ib 0] :: os) (Ro.sl kS28 (some ⟨b0, 0, none⟩) 2 a8 :: rs) := hS.re [2, 2] [] rfl (sub_cons 0 rfl (sub_tail (sub_self)))
 obtain ⟨i7, j8, H⟩ := b1_out H
 have hq := trace_Trace_Add.calls j8 hS
 refine EL.of (EO.callD 14 [pt a4 0, sv (some ⟨b0, 0, none⟩) 2 a8] _ 13 (by kernel_rfl) (by kernel_rfl) (by kernel_rfl) hq ?_)
 rintro v w ⟨m3, n8, rfl, hS⟩
 refine EL.done (by kernel_rfl) ?_
 refine EQ.code ?_
 refine EW.sq (by kernel_rfl) ?_
 refine EW.rg (by kernel_rfl) ?_
 refine EL.quick 1 [1, 2, 15] [(1, pt a4 0), (2, pt a2 0), (15, pt a4 0)] (by kernel_rfl) ?_
 obtain ⟨a5, a9, j9, H⟩ := b2_out H
 have hq := trace_Trace_All.calls j9 hS
 refine EL.of (EO.callD 18 [pt a4 0] _ 16 (by kernel_rfl) (by kernel_rfl) (by kernel_rfl) hq ?_)
 rintro v w ⟨a6, a7, b4, b5, rfl, hS⟩
 have hS := St.fr hS 1 rfl
 have hS : St B _ (Ass.box 75 a4 [sv a6 a7 a5] :: Ass.box 28 a2 [ia 3, ia 0, ia 1, ia 1, ib 65536, ib 0, ib 0] :: os) (Ro.sl kS28 b4 b5 a9 :: Ro.sl kS28 a6 a7 a5 :: Ro.sl kS28 (some ⟨b0, 0, none⟩) 2 a8 :: rs) := hS.re [] [] rfl (sub_cons 0 rfl (sub_tail (sub_self)))
 obtain ⟨b3, m0, H⟩ := b1_out H
 have hq := trace_Put.calls m0 hS
 refine EL.of (EO.callD 15 [sv b4 b5 a9] _ 17 (by kernel_rfl) (by kernel_rfl) (by kernel_rfl) hq ?_)
 rintro v w ⟨b6, b7, rfl, hS⟩
 have hS := St.fr hS 0 rfl
 have hS : St B _ (Ass.box 75 a4 [sv a6 a7 a5] :: Ass.box 28 a2 [ia 3, ia 0, ia 1, ia 1, ib 65536, ib 0, ib 0] :: os) (Ro.sl (Kd.int .u8) b6 b7 b3 :: Ro.sl kS28 b4 b5 a9 :: Ro.sl kS28 a6 a7 a5 :: Ro.sl kS28 (some ⟨b0, 0, none⟩) 2 a8 :: rs) := hS.re [] [] rfl (sub_cons 0 rfl (sub_tail (sub_self)))
 obtain ⟨a0, b9, m1, H⟩ := b2_out H
 have hq := trace_Read.calls m1 hS
 refine EL.of (EO.callD 27 [sv b6 b7 b3] _ 18 (by kernel_rfl) (by kernel_rfl) (by kernel_rfl) hq ?_)
 rintro v w ⟨b8, a1, rfl, hS⟩
 refine EL.quick 5 [1, 2, 3, 4] [(1, pt a4 0), (2, pt a2 0), (3, sv b8 a1 a0), (4, ia b9)] (by kernel_rfl) ?_
 refine EL.done (by kernel_rfl) ?_
 refine EQ.code ?_
 refine EW.sq (by kernel_rfl) ?_
 obtain ⟨c2, c0, d0, H⟩ := b2_out H
 by_cases c6 : (c0.length : Int) = 2
 ·rw [if_pos c6] at H
  by_cases c8 : b9 = 0
  ·rw [if_pos c8] at H
   by_cases c9 : (a0.length : Int) = 2
   ·rw [if_pos c9] at H
    obtain ⟨c4, H⟩ := ite_in H
    obtain ⟨a3, rfl⟩ := St.rd_some hS (Rd.ro 0 rfl) (by decide) c4
    by_cases d2 : ((((a0.getD (0 : Int).toNat zS28).f0) == (3 : Int)) && ((((a0.getD (0 : Int).toNat zS28).f1) == (0 : Int)) && ((((a0.getD (0 : Int).toNat zS28).f2) == (1 : Int)) && ((((a0.getD (0 : Int).toNat zS28).f3) == (1 : Int)) && ((((a0.getD (0 : Int).toNat zS28).f4) == (65536 : Int)) && ((((a0.getD (0 : Int).toNat zS28).f5) == (0 : Int)) && ((((a0.getD (0 : Int).toNat zS28).f6) == (0 : Int)) && true))))))) = true
    ·rw [if_pos d2] at H
     obtain ⟨c5, e0, H⟩ := b1_out H
     by_cases d4 : (c5.toList == (⟨#[51, 32, 48, 32, 116, 97, 107, 101, 32, 49, 32, 54, 53, 53, 51, 54, 32, 48, 32, 48]⟩ : ByteArray).toList) = true
     ·rw [if_pos d4] at H
      obtain ⟨c1, d3, H⟩ := lt_out H
      obtain ⟨c3, f7, H⟩ := b1_out H
      by_cases d6 : (c3.length : Int) = 1
      ·rw [if_pos d6] at H
       obtain ⟨c7, d7, H⟩ := lt_out H
       obtain ⟨d1, g2, H⟩ := b1_out H
       by_cases d9 : (d1.length : Int) = 1
       ·rw [if_pos d9] at H
        obtain ⟨d5, i5, H⟩ := b1_out H
        by_cases e9 : d5 = true
        ·rw [if_pos e9] at H
         obtain ⟨f8, m2, H⟩ := b1_out H
         have hS := hS.drew
         refine EW.dr (B := B) [Ass.box 28 a2 [ia 3, ia 0, ia 1, ia 1, ib 65536, ib 0, ib 0]] [Ro.sl kS28 (some a3) a1 a0, Ro.sl (Kd.int .u8) b6 b7 b3, Ro.sl kS28 b4 b5 a9, Ro.sl kS28 a6 a7 a5, Ro.sl kS28 (some ⟨b0, 0, none⟩) 2 a8] (by kernel_rfl) (by kernel_rfl) ?_
         have hN : Region.noSelect Cd11.r.r.r.r.r.r.l.ops = true := (by kernel_rfl)
         have hF : freeAll Cd11.r.r.r.r.r.r.l.ops = true := (by kernel_rfl)
         have hC : Core B [Ass.box 28 a2 [ia 3, ia 0, ia 1, ia 1, ib 65536, ib 0, ib 0]] [Ro.sl kS28 (some a3) a1 a0, Ro.sl (Kd.int .u8) b6 b7 b3, Ro.sl kS28 b4 b5 a9, Ro.sl kS28 a6 a7 a5, Ro.sl kS28 (some ⟨b0, 0, none⟩) 2 a8] _ := ⟨_, _, hS.re [1] [] rfl sub_self⟩
         refine ED.quick hN hF hC [0] [2, 3, 4, 21] 48 [(2, pt a2 0), (3, sv (some a3) a1 a0), (4, ia b9), (21, pt a4 0)] (bm 49 1) (by kernel_rfl) (by kernel_rfl) ?_
         refine ED.keep [2, 3, 4, 21] [(2, pt a2 0), (3, sv (some a3) a1 a0), (4, ia b9), (21, pt a4 0)] (by kernel_rfl) ?_
         refine ED.as' [(2, pt a2 0), (3, sv (some a3) a1 a0), (4, ia 0), (21, pt a4 0)] (by simp only [encS28, sv, c8]) ?_
         have hS : St B _ (Ass.box 75 a4 [sv a6 a7 a5] :: Ass.box 28 a2 [ia 3, ia 0, ia 1, ia 1, ib 65536, ib 0, ib 0] :: os) (Ro.sl kS28 a6 a7 a5 :: Ro.sl kS28 (some a3) a1 a0 :: Ro.sl (Kd.int .u8) b6 b7 b3 :: Ro.sl kS28 b4 b5 a9 :: Ro.sl kS28 (some ⟨b0, 0, none⟩) 2 a8 :: rs) := hS.re [0] [] rfl (sub_cons 3 rfl (sub_cons 0 rfl (sub_cons 1 rfl (sub_cons 2 rfl (sub_tail (sub_tail (sub_tail (sub_tail (sub_self)))))))))
         have hq := trace_Trace_All_18.calls d0 hS
         refine ED.one 1 47 (bm 49 3) (by kernel_rfl) (by kernel_rfl) (by kernel_rfl) (EO.callD 18 [pt a4 0] _ 22 (by kernel_rfl) (by kernel_rfl) (by kernel_rfl) hq ?_)
         rintro v w ⟨e2, e6, g3, g7, rfl, hS⟩
         have hC := hC.again ⟨_, _, hS.re [2] [] rfl (sub_cons 2 rfl (sub_cons 3 rfl (sub_cons 4 rfl (sub_cons 1 rfl (sub_cons 5 rfl sub_self)))))⟩
         refine ⟨hC, ?_⟩
         refine ED.quick hN hF hC [2] [2, 3, 4, 23] 46 [(2, pt a2 0), (3, sv (some a3) a1 a0), (4, ia 0), (23, ia (c0.length : Int))] (bm 49 7) (by kernel_rfl) (by kernel_rfl) ?_
         refine ED.keep [2, 3, 4, 23] [(2, pt a2 0), (3, sv (some a3) a1 a0), (4, ia 0), (23, ia (c0.length : Int))] (by kernel_rfl) ?_
         refine ED.as' [(2, pt a2 0), (3, sv (some a3) a1 a0), (4, ia 0), (23, ia 2)] (by simp only [encS28, sv, c6]) ?_
         refine ED.quick hN hF hC [3, 4, 5, 6, 7, 8, 9, 10] [2, 3, 29, 31] 38 [(2, pt a2 0), (3, sv (some a3) a1 a0), (29, .bool (true)), (31, ia (a0.length : Int))] (bm 49 2047) (by kernel_rfl) (by kernel_rfl) ?_
         refine ED.keep [2, 3, 29, 31] [(2, pt a2 0), (3, sv (some a3) a1 a0), (29, .bool (true)), (31, ia (a0.length : Int))] (by kernel_rfl) ?_
         refine ED.as' [(2, pt a2 0), (3, sv (some a3) a1 a0), (29, .bool (true)), (31, ia 2)] (by simp only [encS28, sv, c9]) ?_
         refine ED.quick hN hF hC [11, 12, 13, 14] [2, 3, 34, 35] 34 [(2, pt a2 0), (3, sv (some a3) a1 a0), (34, .bool (true)), (35, sv (some a3) a1 a0)] (bm 49 32767) (by kernel_rfl) (by kernel_rfl) ?_
         refine ED.Y hN hF hC 15 33 (bm 49 65535) (by kernel_rfl) (by kernel_rfl) rfl (fun _ _ _ hS => YO.idx 22 7 a3 a0.length a1 .i64 0 36 (by kernel_rfl) (by kernel_rfl) (by kernel_rfl) (by kernel_rfl) (by decide) c4) ?_
         refine ED.Y hN hF hC 16 32 (bm 49 131071) (by kernel_rfl) (by kernel_rfl) rfl (fun _ _ _ hS => YO.loadEl hS kS28 a3 a1 a0 (Rd.ro 0 rfl) zS28 encS28 encS28_of 0 (by decide) c4 28 7 0 7 rfl (ag (encS28 (a0.getD (0 : Int).toNat zS28))) 37 (by kernel_rfl) (by kernel_rfl) (by kernel_rfl) (by kernel_rfl)) ?_
         refine ED.Y hN hF hC 17 31 (bm 49 262143) (by kernel_rfl) (by kernel_rfl) rfl (fun _ _ _ hS => YO.loadBox hS 0 rfl 28 0 7 (ag [ia 3, ia 0, ia 1, ia 1, ib 65536, ib 0, ib 0]) 38 (by kernel_rfl) (by kernel_rfl) (by kernel_rfl) (by kernel_rfl)) ?_
         refine ED.Y hN hF hC 18 30 (bm 49 524287) (by kernel_rfl) (by kernel_rfl) rfl (fun _ _ _ hS => YO.eqAg .eql 28 (.tmp 37) (.tmp 38) #[ia ((a0.getD (0 : Int).toNat zS28).f0), ia ((a0.getD (0 : Int).toNat zS28).f1), ia ((a0.getD (0 : Int).toNat zS28).f2), ia ((a0.getD (0 : Int).toNat zS28).f3), ib ((a0.getD (0 : Int).toNat zS28).f4), ib ((a0.getD (0 : Int).toNat zS28).f5), ib ((a0.getD (0 : Int).toNat zS28).f6)] #[ia 3, ia 0, ia 1, ia 1, ib 65536, ib 0, ib 0] ((((a0.getD (0 : Int).toNat zS28).f0) == (3 : Int)) && ((((a0.getD (0 : Int).toNat zS28).f1) == (0 : Int)) && ((((a0.getD (0 : Int).toNat zS28).f2) == (1 : Int)) && ((((a0.getD (0 : Int).toNat zS28).f3) == (1 : Int)) && ((((a0.getD (0 : Int).toNat zS28).f4) == (65536 : Int)) && ((((a0.getD (0 : Int).toNat zS28).f5) == (0 : Int)) && ((((a0.getD (0 : Int).toNat zS28).f6) == (0 : Int)) && true))))))) (((((a0.getD (0 : Int).toNat zS28).f0) == (3 : Int)) && ((((a0.getD (0 : Int).toNat zS28).f1) == (0 : Int)) && ((((a0.getD (0 : Int).toNat zS28).f2) == (1 : Int)) && ((((a0.getD (0 : Int).toNat zS28).f3) == (1 : Int)) && ((((a0.getD (0 : Int).toNat zS28).f4) == (65536 : Int)) && ((((a0.getD (0 : Int).toNat zS28).f5) == (0 : Int)) && ((((a0.getD (0 : Int).toNat zS28).f6) == (0 : Int)) && true)))))))) 39 (by kernel_rfl) (by kernel_rfl) (by kernel_rfl) (by kernel_rfl) (by kernel_rfl) (.inl ⟨rfl, rfl⟩)) ?_
         refine ED.quick hN hF hC [19, 20] [2, 3, 41] 28 [(2, pt a2 0), (3, sv (some a3) a1 a0), (41, .bool (((((a0.getD (0 : Int).toNat zS28).f0) == (3 : Int)) && ((((a0.getD (0 : Int).toNat zS28).f1) == (0 : Int)) && ((((a0.getD (0 : Int).toNat zS28).f2) == (1 : Int)) && ((((a0.getD (0 : Int).toNat zS28).f3) == (1 : Int)) && ((((a0.getD (0 : Int).toNat zS28).f4) == (65536 : Int)) && ((((a0.getD (0 : Int).toNat zS28).f5) == (0 : Int)) && ((((a0.getD (0 : Int).toNat zS28).f6) == (0 : Int)) && true)))))))))] (bm 49 2097151) (by kernel_rfl) (by kernel_rfl) ?_
         refine ED.keep [2, 3, 41] [(2, pt a2 0), (3, sv (some a3) a1 a0), (41, .bool (((((a0.getD (0 : Int).toNat zS28).f0) == (3 : Int)) && ((((a0.getD (0 : Int).toNat zS28).f1) == (0 : Int)) && ((((a0.getD (0 : Int).toNat zS28).f2) == (1 : Int)) && ((((a0.getD (0 : Int).toNat zS28).f3) == (1 : Int)) && ((((a0.getD (0 : Int).toNat zS28).f4) == (65536 : Int)) && ((((a0.getD (0 : Int).toNat zS28).f5) == (0 : Int)) && ((((a0.getD (0 : Int).toNat zS28).f6) == (0 : Int)) && true)))))))))] (by kernel_rfl) ?_
         refine ED.as' [(2, pt a2 0), (3, sv (some a3) a1 a0), (41, .bool (true))] (by simp only [encS28, sv, d2, Bool.not_true, Bool.not_false]) ?_
         refine ED.Y hN hF hC 21 27 (bm 49 4194303) (by kernel_rfl) (by kernel_rfl) rfl (fun _ _ _ hS => YO.loadBox hS 0 rfl 28 0 7 (ag [ia 3, ia 0, ia 1, ia 1, ib 65536, ib 0, ib 0]) 42 (by kernel_rfl) (by kernel_rfl) (by kernel_rfl) (by kernel_rfl)) ?_
         have hq := trace_Text.calls e0 hS gB
         refine ED.one 22 26 (bm 49 8388607) (by kernel_rfl) (by kernel_rfl) (by kernel_rfl) (EO.callD 25 [ag [ia 3, ia 0, ia 1, ia 1, ib 65536, ib 0, ib 0]] _ 43 (by kernel_rfl) (by kernel_rfl) (by kernel_rfl) hq ?_)
         rintro v w ⟨rfl, hS⟩
         have hC := hC.again ⟨_, _, hS.re [2] [] rfl (sub_cons 2 rfl (sub_cons 3 rfl (sub_cons 4 rfl (sub_cons 1 rfl (sub_cons 5 rfl sub_self)))))⟩
         refine ⟨hC, ?_⟩
         refine ED.quick hN hF hC [23, 24, 25] [2, 3, 46] 23 [(2, pt a2 0), (3, sv (some a3) a1 a0), (46, .bool ((c5.toList == (⟨#[51, 32, 48, 32, 116, 97, 107, 101, 32, 49, 32, 54, 53, 53, 51, 54, 32, 48, 32, 48]⟩ : ByteArray).toList)))] (bm 49 67108863) (by kernel_rfl) (by kernel_rfl) ?_
         refine ED.keep [2, 3, 46] [(2, pt a2 0), (3, sv (some a3) a1 a0), (46, .bool ((c5.toList == (⟨#[51, 32, 48, 32, 116, 97, 107, 101, 32, 49, 32, 54, 53, 53, 51, 54, 32, 48, 32, 48]⟩ : ByteArray).toList)))] (by kernel_rfl) ?_
         refine ED.as' [(2, pt a2 0), (3, sv (some a3) a1 a0), (46, .bool (true))] (by simp only [encS28, sv, d4, Bool.not_true, Bool.not_false]) ?_
         refine ED.quick hN hF hC [26] [2, 3, 46, 47] 22 [(2, pt a2 0), (3, sv (some a3) a1 a0), (46, .bool (true)), (47, sv (some a3) a1 a0)] (bm 49 134217727) (by kernel_rfl) (by kernel_rfl) ?_
         refine ED.one 27 21 (bm 49 268435455) (by kernel_rfl) (by kernel_rfl) (by kernel_rfl) (EO.lit hS (Kd.int .i64) 3 24 1 #[(0, ia 2)] [ia 2] c1 48 (by kernel_rfl) (by kernel_rfl) (by kernel_rfl) (fun _ => (by kernel_rfl)) (by rw [d3]; rfl) (by kernel_rfl) (fun w G hr => (by rw [d3]; exact ⟨[ia 2], [], rfl, rfl, rfl⟩)) ?_)
         intro f9 w hS
         have hC := hC.again ⟨_, _, hS.re [3] [] rfl (sub_cons 2 rfl (sub_cons 3 rfl (sub_cons 4 rfl (sub_cons 1 rfl (sub_cons 5 rfl sub_self)))))⟩
         refine ⟨hC, ?_⟩
         have hS := St.fr hS 0 rfl
         have hS : St B _ (Ass.box 75 a4 [sv e2 e6 c2] :: Ass.own 28 kS28 g3 g7 c0 :: Ass.box 28 a2 [ia 3, ia 0, ia 1, ia 1, ib 65536, ib 0, ib 0] :: os) (Ro.sl kS28 (some a3) a1 a0 :: Ro.sl (Kd.int .i64) (some ⟨f9, 0, none⟩) 1 c1 :: Ro.sl kS28 e2 e6 c2 :: Ro.sl kS28 a6 a7 a5 :: Ro.sl (Kd.int .u8) b6 b7 b3 :: Ro.sl kS28 b4 b5 a9 :: Ro.sl kS28 (some ⟨b0, 0, none⟩) 2 a8 :: rs) := hS.re [] [] rfl (sub_cons 3 rfl (sub_cons 0 rfl (sub_cons 1 rfl (sub_cons 2 rfl (sub_tail (sub_tail (sub_tail (sub_tail (sub_self)))))))))
         have hq := trace_Of.calls f7 hS
         refine ED.one 28 20 (bm 49 536870911) (by kernel_rfl) (by kernel_rfl) (by kernel_rfl) (EO.callD 19 [sv (some a3) a1 a0, sv (some ⟨f9, 0, none⟩) 1 c1] _ 49 (by kernel_rfl) (by kernel_rfl) (by kernel_rfl) hq ?_)
         rintro v w ⟨i9, j3, rfl, hS⟩
         have hC := hC.again ⟨_, _, hS.re [3] [] rfl (sub_cons 0 rfl (sub_cons 4 rfl (sub_cons 5 rfl (sub_cons 3 rfl (sub_cons 6 rfl sub_self)))))⟩
         refine ⟨hC, ?_⟩
         refine ED.quick hN hF hC [29] [2, 3, 46, 50] 19 [(2, pt a2 0), (3, sv (some a3) a1 a0), (46, .bool (true)), (50, ia (c3.length : Int))] (bm 49 1073741823) (by kernel_rfl) (by kernel_rfl) ?_
         refine ED.keep [2, 3, 46, 50] [(2, pt a2 0), (3, sv (some a3) a1 a0), (46, .bool (true)), (50, ia (c3.length : Int))] (by kernel_rfl) ?_
         refine ED.as' [(2, pt a2 0), (3, sv (some a3) a1 a0), (46, .bool (true)), (50, ia 1)] (by simp only [encS28, sv, d6]) ?_
         refine ED.quick hN hF hC [30, 31, 32, 33] [2, 53, 54] 15 [(2, pt a2 0), (53, .bool (true)), (54, sv (some a3) a1 a0)] (bm 49 17179869183) (by kernel_rfl) (by kernel_rfl) ?_
         refine ED.one 34 14 (bm 49 34359738367) (by kernel_rfl) (by kernel_rfl) (by kernel_rfl) (EO.lit hS (Kd.int .i64) 3 24 1 #[(0, ia 1)] [ia 1] c7 55 (by kernel_rfl) (by kernel_rfl) (by kernel_rfl) (fun _ => (by kernel_rfl)) (by rw [d7]; rfl) (by kernel_rfl) (fun w G hr => (by rw [d7]; exact ⟨[ia 1], [], rfl, rfl, rfl⟩)) ?_)
         intro i1 w hS
         have hC := hC.again ⟨_, _, hS.re [4] [] rfl (sub_cons 0 rfl (sub_cons 4 rfl (sub_cons 5 rfl (sub_cons 3 rfl (sub_cons 6 rfl sub_self)))))⟩
         refine ⟨hC, ?_⟩
         have hS := St.fr hS 0 rfl
         have hS : St B _ (Ass.own 28 kS28 i9 j3 c3 :: Ass.box 75 a4 [sv e2 e6 c2] :: Ass.own 28 kS28 g3 g7 c0 :: Ass.box 28 a2 [ia 3, ia 0, ia 1, ia 1, ib 65536, ib 0, ib 0] :: os) (Ro.sl kS28 (some a3) a1 a0 :: Ro.sl (Kd.int .i64) (some ⟨i1, 0, none⟩) 1 c7 :: Ro.sl (Kd.int .i64) (some ⟨f9, 0, none⟩) 1 c1 :: Ro.sl kS28 e2 e6 c2 :: Ro.sl kS28 a6 a7 a5 :: Ro.sl (Kd.int .u8) b6 b7 b3 :: Ro.sl kS28 b4 b5 a9 :: Ro.sl kS28 (some ⟨b0, 0, none⟩) 2 a8 :: rs) := hS.re [] [] rfl (sub_cons 1 rfl (sub_cons 0 rfl (sub_tail (sub_tail (sub_self)))))
         have hq := trace_Kinds.calls g2 hS
         refine ED.one 35 13 (bm 49 68719476735) (by kernel_rfl) (by kernel_rfl) (by kernel_rfl) (EO.callD 21 [sv (some a3) a1 a0, sv (some ⟨i1, 0, none⟩) 1 c7] _ 56 (by kernel_rfl) (by kernel_rfl) (by kernel_rfl) hq ?_)
         rintro v w ⟨m4, n9, rfl, hS⟩
         have hC := hC.again ⟨_, _, hS.re [4] [] rfl (sub_cons 0 rfl (sub_cons 5 rfl (sub_cons 6 rfl (sub_cons 4 rfl (sub_cons 7 rfl sub_self)))))⟩
         refine ⟨hC, ?_⟩
         refine ED.quick hN hF hC [36] [2, 53, 57] 12 [(2, pt a2 0), (53, .bool (true)), (57, ia (d1.length : Int))] (bm 49 137438953471) (by kernel_rfl) (by kernel_rfl) ?_
         refine ED.keep [2, 53, 57] [(2, pt a2 0), (53, .bool (true)), (57, ia (d1.length : Int))] (by kernel_rfl) ?_
         refine ED.as' [(2, pt a2 0), (53, .bool (true)), (57, ia 1)] (by simp only [encS28, sv, d9]) ?_
         refine ED.quick hN hF hC [37, 38, 39] [2, 60] 9 [(2, pt a2 0), (60, .bool (true))] (bm 49 1099511627775) (by kernel_rfl) (by kernel_rfl) ?_
         refine ED.Y hN hF hC 40 8 (bm 49 2199023255551) (by kernel_rfl) (by kernel_rfl) rfl (fun _ _ _ hS => YO.loadBox hS 0 rfl 28 0 7 (ag [ia 3, ia 0, ia 1, ia 1, ib 65536, ib 0, ib 0]) 61 (by kernel_rfl) (by kernel_rfl) (by kernel_rfl) (by kernel_rfl)) ?_
         have hq := trace_Right.calls i5 hS
         refine ED.one 41 7 (bm 49 4398046511103) (by kernel_rfl) (by kernel_rfl) (by kernel_rfl) (EO.callD 23 [ag [ia 3, ia 0, ia 1, ia 1, ib 65536, ib 0, ib 0]] _ 62 (by kernel_rfl) (by kernel_rfl) (by kernel_rfl) hq ?_)
         rintro v w ⟨rfl, hS⟩
         have hC := hC.again ⟨_, _, hS.re [4] [] rfl (sub_cons 0 rfl (sub_cons 5 rfl (sub_cons 6 rfl (sub_cons 4 rfl (sub_cons 7 rfl sub_self)))))⟩
         refine ⟨hC, ?_⟩
         refine ED.quick hN hF hC [42, 43] [64] 5 [(64, .bool (d5))] (bm 49 17592186044415) (by kernel_rfl) (by kernel_rfl) ?_
         refine ED.keep [64] [(64, .bool (d5))] (by kernel_rfl) ?_
         refine ED.as' [(64, .bool (true))] (by simp only [encS28, sv, e9, Bool.not_true, Bool.not_false]) ?_
         refine ED.quick hN hF hC [44] [64, 65] 4 [(64, .bool (true)), (65, ag (encS28 zS28))] (bm 49 35184372088831) (by kernel_rfl) (by kernel_rfl) ?_
         have hq := trace_Right.calls m2 hS
         refine ED.one 45 3 (bm 49 70368744177663) (by kernel_rfl) (by kernel_rfl) (by kernel_rfl) (EO.callD 23 [ag (encS28 zS28)] _ 66 (by kernel_rfl) (by kernel_rfl) (by kernel_rfl) hq ?_)
         rintro v w ⟨rfl, hS⟩
         have hC := hC.again ⟨_, _, hS.re [4] [] rfl (sub_cons 0 rfl (sub_cons 5 rfl (sub_cons 6 rfl (sub_cons 4 rfl (sub_cons 7 rfl sub_self)))))⟩
         refine ⟨hC, ?_⟩
         refine ED.quick hN hF hC [46, 47, 48] [0] 0 [(0, .bool (!(f8)))] (bm 49 562949953421311) (by kernel_rfl) (by kernel_rfl) ?_
         refine ED.done (by kernel_rfl) ?_
         refine EQ.code ?_
         refine EW.ret (by kernel_rfl) ?_
         obtain rfl := Option.some.inj H
         exact EQ.leave (.bool (!(f8))) (by kernel_rfl) ⟨_, rfl, rfl, (hS.re [] [0, 0, 0, 0, 0] rfl (sub_tail (sub_tail (sub_tail (sub_tail (sub_tail (sub_tail (sub_tail (sub_tail (sub_self))))))))))⟩
        rw [if_neg e9] at H
        have hS := hS.drew
        refine EW.dr (B := B) [Ass.box 28 a2 [ia 3, ia 0, ia 1, ia 1, ib 65536, ib 0, ib 0]] [Ro.sl kS28 (some a3) a1 a0, Ro.sl (Kd.int .u8) b6 b7 b3, Ro.sl kS28 b4 b5 a9, Ro.sl kS28 a6 a7 a5, Ro.sl kS28 (some ⟨b0, 0, none⟩) 2 a8] (by kernel_rfl) (by kernel_rfl) ?_
        have hN : Region.noSelect Cd11.r.r.r.r.r.r.l.ops = true := (by kernel_rfl)
        have hF : freeAll Cd11.r.r.r.r.r.r.l.ops = true := (by kernel_rfl)
        have hC : Core B [Ass.box 28 a2 [ia 3, ia 0, ia 1, ia 1, ib 65536, ib 0, ib 0]] [Ro.sl kS28 (some a3) a1 a0, Ro.sl (Kd.int .u8) b6 b7 b3, Ro.sl kS28 b4 b5 a9, Ro.sl kS28 a6 a7 a5, Ro.sl kS28 (some ⟨b0, 0, none⟩) 2 a8] _ := ⟨_, _, hS.re [1] [] rfl sub_self⟩
        refine ED.quick hN hF hC [0] [2, 3, 4, 21] 48 [(2, pt a2 0), (3, sv (some a3) a1 a0), (4, ia b9), (21, pt a4 0)] (bm 49 1) (by kernel_rfl) (by kernel_rfl) ?_
        refine ED.keep [2, 3, 4, 21] [(2, pt a2 0), (3, sv (some a3) a1 a0), (4, ia b9), (21, pt a4 0)] (by kernel_rfl) ?_
        refine ED.as' [(2, pt a2 0), (3, sv (some a3) a1 a0), (4, ia 0), (21, pt a4 0)] (by simp only [encS28, sv, c8]) ?_
        have hS : St B _ (Ass.box 75 a4 [sv a6 a7 a5] :: Ass.box 28 a2 [ia 3, ia 0, ia 1, ia 1, ib 65536, ib 0, ib 0] :: os) (Ro.sl kS28 a6 a7 a5 :: Ro.sl kS28 (some a3) a1 a0 :: Ro.sl (Kd.int .u8) b6 b7 b3 :: Ro.sl kS28 b4 b5 a9 :: Ro.sl kS28 (some ⟨b0, 0, none⟩) 2 a8 :: rs) := hS.re [0] [] rfl (sub_cons 3 rfl (sub_cons 0 rfl (sub_cons 1 rfl (sub_cons 2 rfl (sub_tail (sub_tail (sub_tail (sub_tail (sub_self)))))))))
        have hq := trace_Trace_All_18.calls d0 hS
        refine ED.one 1 47 (bm 49 3) (by kernel_rfl) (by kernel_rfl) (by kernel_rfl) (EO.callD 18 [pt a4 0] _ 22 (by kernel_rfl) (by kernel_rfl) (by kernel_rfl) hq ?_)
        rintro v w ⟨e3, e7, g4, g8, rfl, hS⟩
        have hC := hC.again ⟨_, _, hS.re [2] [] rfl (sub_cons 2 rfl (sub_cons 3 rfl (sub_cons 4 rfl (sub_cons 1 rfl (sub_cons 5 rfl sub_self)))))⟩
        refine ⟨hC, ?_⟩
        refine ED.quick hN hF hC [2] [2, 3, 4, 23] 46 [(2, pt a2 0), (3, sv (some a3) a1 a0), (4, ia 0), (23, ia (c0.length : Int))] (bm 49 7) (by kernel_rfl) (by kernel_rfl) ?_
        refine ED.keep [2, 3, 4, 23] [(2, pt a2 0), (3, sv (some a3) a1 a0), (4, ia 0), (23, ia (c0.length : Int))] (by kernel_rfl) ?_
        refine ED.as' [(2, pt a2 0), (3, sv (some a3) a1 a0), (4, ia 0), (23, ia 2)] (by simp only [encS28, sv, c6]) ?_
        refine ED.quick hN hF hC [3, 4, 5, 6, 7, 8, 9, 10] [2, 3, 29, 31] 38 [(2, pt a2 0), (3, sv (some a3) a1 a0), (29, .bool (true)), (31, ia (a0.length : Int))] (bm 49 2047) (by kernel_rfl) (by kernel_rfl) ?_
        refine ED.keep [2, 3, 29, 31] [(2, pt a2 0), (3, sv (some a3) a1 a0), (29, .bool (true)), (31, ia (a0.length : Int))] (by kernel_rfl) ?_
        refine ED.as' [(2, pt a2 0), (3, sv (some a3) a1 a0), (29, .bool (true)), (31, ia 2)] (by simp only [encS28, sv, c9]) ?_
        refine ED.quick hN hF hC [11, 12, 13, 14] [2, 3, 34, 35] 34 [(2, pt a2 0), (3, sv (some a3) a1 a0), (34, .bool (true)), (35, sv (some a3) a1 a0)] (bm 49 32767) (by kernel_rfl) (by kernel_rfl) ?_
        refine ED.Y hN hF hC 15 33 (bm 49 65535) (by kernel_rfl) (by kernel_rfl) rfl (fun _ _ _ hS => YO.idx 22 7 a3 a0.length a1 .i64 0 36 (by kernel_rfl) (by kernel_rfl) (by kernel_rfl) (by kernel_rfl) (by decide) c4) ?_
        refine ED.Y hN hF hC 16 32 (bm 49 131071) (by kernel_rfl) (by kernel_rfl) rfl (fun _ _ _ hS => YO.loadEl hS kS28 a3 a1 a0 (Rd.ro 0 rfl) zS28 encS28 encS28_of 0 (by decide) c4 28 7 0 7 rfl (ag (encS28 (a0.getD (0 : Int).toNat zS28))) 37 (by kernel_rfl) (by kernel_rfl) (by kernel_rfl) (by kernel_rfl)) ?_
        refine ED.Y hN hF hC 17 31 (bm 49 262143) (by kernel_rfl) (by kernel_rfl) rfl (fun _ _ _ hS => YO.loadBox hS 0 rfl 28 0 7 (ag [ia 3, ia 0, ia 1, ia 1, ib 65536, ib 0, ib 0]) 38 (by kernel_rfl) (by kernel_rfl) (by kernel_rfl) (by kernel_rfl)) ?_
        refine ED.Y hN hF hC 18 30 (bm 49 524287) (by kernel_rfl) (by kernel_rfl) rfl (fun _ _ _ hS => YO.eqAg .eql 28 (.tmp 37) (.tmp 38) #[ia ((a0.getD (0 : Int).toNat zS28).f0), ia ((a0.getD (0 : Int).toNat zS28).f1), ia ((a0.getD (0 : Int).toNat zS28).f2), ia ((a0.getD (0 : Int).toNat zS28).f3), ib ((a0.getD (0 : Int).toNat zS28).f4), ib ((a0.getD (0 : Int).toNat zS28).f5), ib ((a0.getD (0 : Int).toNat zS28).f6)] #[ia 3, ia 0, ia 1, ia 1, ib 65536, ib 0, ib 0] ((((a0.getD (0 : Int).toNat zS28).f0) == (3 : Int)) && ((((a0.getD (0 : Int).toNat zS28).f1) == (0 : Int)) && ((((a0.getD (0 : Int).toNat zS28).f2) == (1 : Int)) && ((((a0.getD (0 : Int).toNat zS28).f3) == (1 : Int)) && ((((a0.getD (0 : Int).toNat zS28).f4) == (65536 : Int)) && ((((a0.getD (0 : Int).toNat zS28).f5) == (0 : Int)) && ((((a0.getD (0 : Int).toNat zS28).f6) == (0 : Int)) && true))))))) (((((a0.getD (0 : Int).toNat zS28).f0) == (3 : Int)) && ((((a0.getD (0 : Int).toNat zS28).f1) == (0 : Int)) && ((((a0.getD (0 : Int).toNat zS28).f2) == (1 : Int)) && ((((a0.getD (0 : Int).toNat zS28).f3) == (1 : Int)) && ((((a0.getD (0 : Int).toNat zS28).f4) == (65536 : Int)) && ((((a0.getD (0 : Int).toNat zS28).f5) == (0 : Int)) && ((((a0.getD (0 : Int).toNat zS28).f6) == (0 : Int)) && true)))))))) 39 (by kernel_rfl) (by kernel_rfl) (by kernel_rfl) (by kernel_rfl) (by kernel_rfl) (.inl ⟨rfl, rfl⟩)) ?_
        refine ED.quick hN hF hC [19, 20] [2, 3, 41] 28 [(2, pt a2 0), (3, sv (some a3) a1 a0), (41, .bool (((((a0.getD (0 : Int).toNat zS28).f0) == (3 : Int)) && ((((a0.getD (0 : Int).toNat zS28).f1) == (0 : Int)) && ((((a0.getD (0 : Int).toNat zS28).f2) == (1 : Int)) && ((((a0.getD (0 : Int).toNat zS28).f3) == (1 : Int)) && ((((a0.getD (0 : Int).toNat zS28).f4) == (65536 : Int)) && ((((a0.getD (0 : Int).toNat zS28).f5) == (0 : Int)) && ((((a0.getD (0 : Int).toNat zS28).f6) == (0 : Int)) && true)))))))))] (bm 49 2097151) (by kernel_rfl) (by kernel_rfl) ?_
        refine ED.keep [2, 3, 41] [(2, pt a2 0), (3, sv (some a3) a1 a0), (41, .bool (((((a0.getD (0 : Int).toNat zS28).f0) == (3 : Int)) && ((((a0.getD (0 : Int).toNat zS28).f1) == (0 : Int)) && ((((a0.getD (0 : Int).toNat zS28).f2) == (1 : Int)) && ((((a0.getD (0 : Int).toNat zS28).f3) == (1 : Int)) && ((((a0.getD (0 : Int).toNat zS28).f4) == (65536 : Int)) && ((((a0.getD (0 : Int).toNat zS28).f5) == (0 : Int)) && ((((a0.getD (0 : Int).toNat zS28).f6) == (0 : Int)) && true)))))))))] (by kernel_rfl) ?_
        refine ED.as' [(2, pt a2 0), (3, sv (some a3) a1 a0), (41, .bool (true))] (by simp only [encS28, sv, d2, Bool.not_true, Bool.not_false]) ?_
        refine ED.Y hN hF hC 21 27 (bm 49 4194303) (by kernel_rfl) (by kernel_rfl) rfl (fun _ _ _ hS => YO.loadBox hS 0 rfl 28 0 7 (ag [ia 3, ia 0, ia 1, ia 1, ib 65536, ib 0, ib 0]) 42 (by kernel_rfl) (by kernel_rfl) (by kernel_rfl) (by kernel_rfl)) ?_
        have hq := trace_Text.calls e0 hS gB
        refine ED.one 22 26 (bm 49 8388607) (by kernel_rfl) (by kernel_rfl) (by kernel_rfl) (EO.callD 25 [ag [ia 3, ia 0, ia 1, ia 1, ib 65536, ib 0, ib 0]] _ 43 (by kernel_rfl) (by kernel_rfl) (by kernel_rfl) hq ?_)
        rintro v w ⟨rfl, hS⟩
        have hC := hC.again ⟨_, _, hS.re [2] [] rfl (sub_cons 2 rfl (sub_cons 3 rfl (sub_cons 4 rfl (sub_cons 1 rfl (sub_cons 5 rfl sub_self)))))⟩
        refine ⟨hC, ?_⟩
        refine ED.quick hN hF hC [23, 24, 25] [2, 3, 46] 23 [(2, pt a2 0), (3, sv (some a3) a1 a0), (46, .bool ((c5.toList == (⟨#[51, 32, 48, 32, 116, 97, 107, 101, 32, 49, 32, 54, 53, 53, 51, 54, 32, 48, 32, 48]⟩ : ByteArray).toList)))] (bm 49 67108863) (by kernel_rfl) (by kernel_rfl) ?_
        refine ED.keep [2, 3, 46] [(2, pt a2 0), (3, sv (some a3) a1 a0), (46, .bool ((c5.toList == (⟨#[51, 32, 48, 32, 116, 97, 107, 101, 32, 49, 32, 54, 53, 53, 51, 54, 32, 48, 32, 48]⟩ : ByteArray).toList)))] (by kernel_rfl) ?_
        refine ED.as' [(2, pt a2 0), (3, sv (some a3) a1 a0), (46, .bool (true))] (by simp only [encS28, sv, d4, Bool.not_true, Bool.not_false]) ?_
        refine ED.quick hN hF hC [26] [2, 3, 46, 47] 22 [(2, pt a2 0), (3, sv (some a3) a1 a0), (46, .bool (true)), (47, sv (some a3) a1 a0)] (bm 49 134217727) (by kernel_rfl) (by kernel_rfl) ?_
        refine ED.one 27 21 (bm 49 268435455) (by kernel_rfl) (by kernel_rfl) (by kernel_rfl) (EO.lit hS (Kd.int .i64) 3 24 1 #[(0, ia 2)] [ia 2] c1 48 (by kernel_rfl) (by kernel_rfl) (by kernel_rfl) (fun _ => (by kernel_rfl)) (by rw [d3]; rfl) (by kernel_rfl) (fun w G hr => (by rw [d3]; exact ⟨[ia 2], [], rfl, rfl, rfl⟩)) ?_)
        intro g0 w hS
        have hC := hC.again ⟨_, _, hS.re [3] [] rfl (sub_cons 2 rfl (sub_cons 3 rfl (sub_cons 4 rfl (sub_cons 1 rfl (sub_cons 5 rfl sub_self)))))⟩
        refine ⟨hC, ?_⟩
        have hS := St.fr hS 0 rfl
        have hS : St B _ (Ass.box 75 a4 [sv e3 e7 c2] :: Ass.own 28 kS28 g4 g8 c0 :: Ass.box 28 a2 [ia 3, ia 0, ia 1, ia 1, ib 65536, ib 0, ib 0] :: os) (Ro.sl kS28 (some a3) a1 a0 :: Ro.sl (Kd.int .i64) (some ⟨g0, 0, none⟩) 1 c1 :: Ro.sl kS28 e3 e7 c2 :: Ro.sl kS28 a6 a7 a5 :: Ro.sl (Kd.int .u8) b6 b7 b3 :: Ro.sl kS28 b4 b5 a9 :: Ro.sl kS28 (some ⟨b0, 0, none⟩) 2 a8 :: rs) := hS.re [] [] rfl (sub_cons 3 rfl (sub_cons 0 rfl (sub_cons 1 rfl (sub_cons 2 rfl (sub_tail (sub_tail (sub_tail (sub_tail (sub_self)))))))))
        have hq := trace_Of.calls f7 hS
        refine ED.one 28 20 (bm 49 536870911) (by kernel_rfl) (by kernel_rfl) (by kernel_rfl) (EO.callD 19 [sv (some a3) a1 a0, sv (some ⟨g0, 0, none⟩) 1 c1] _ 49 (by kernel_rfl) (by kernel_rfl) (by kernel_rfl) hq ?_)
        rintro v w ⟨j0, j4, rfl, hS⟩
        have hC := hC.again ⟨_, _, hS.re [3] [] rfl (sub_cons 0 rfl (sub_cons 4 rfl (sub_cons 5 rfl (sub_cons 3 rfl (sub_cons 6 rfl sub_self)))))⟩
        refine ⟨hC, ?_⟩
        refine ED.quick hN hF hC [29] [2, 3, 46, 50] 19 [(2, pt a2 0), (3, sv (some a3) a1 a0), (46, .bool (true)), (50, ia (c3.length : Int))] (bm 49 1073741823) (by kernel_rfl) (by kernel_rfl) ?_
        refine ED.keep [2, 3, 46, 50] [(2, pt a2 0), (3, sv (some a3) a1 a0), (46, .bool (true)), (50, ia (c3.length : Int))] (by kernel_rfl) ?_
        refine ED.as' [(2, pt a2 0), (3, sv (some a3) a1 a0), (46, .bool (true)), (50, ia 1)] (by simp only [encS28, sv, d6]) ?_
        refine ED.quick hN hF hC [30, 31, 32, 33] [2, 53, 54] 15 [(2, pt a2 0), (53, .bool (true)), (54, sv (some a3) a1 a0)] (bm 49 17179869183) (by kernel_rfl) (by kernel_rfl) ?_
        refine ED.one 34 14 (bm 49 34359738367) (by kernel_rfl) (by kernel_rfl) (by kernel_rfl) (EO.lit hS (Kd.int .i64) 3 24 1 #[(0, ia 1)] [ia 1] c7 55 (by kernel_rfl) (by kernel_rfl) (by kernel_rfl) (fun _ => (by kernel_rfl)) (by rw [d7]; rfl) (by kernel_rfl) (fun w G hr => (by rw [d7]; exact ⟨[ia 1], [], rfl, rfl, rfl⟩)) ?_)
        intro i2 w hS
        have hC := hC.again ⟨_, _, hS.re [4] [] rfl (sub_cons 0 rfl (sub_cons 4 rfl (sub_cons 5 rfl (sub_cons 3 rfl (sub_cons 6 rfl sub_self)))))⟩
        refine ⟨hC, ?_⟩
        have hS := St.fr hS 0 rfl
        have hS : St B _ (Ass.own 28 kS28 j0 j4 c3 :: Ass.box 75 a4 [sv e3 e7 c2] :: Ass.own 28 kS28 g4 g8 c0 :: Ass.box 28 a2 [ia 3, ia 0, ia 1, ia 1, ib 65536, ib 0, ib 0] :: os) (Ro.sl kS28 (some a3) a1 a0 :: Ro.sl (Kd.int .i64) (some ⟨i2, 0, none⟩) 1 c7 :: Ro.sl (Kd.int .i64) (some ⟨g0, 0, none⟩) 1 c1 :: Ro.sl kS28 e3 e7 c2 :: Ro.sl kS28 a6 a7 a5 :: Ro.sl (Kd.int .u8) b6 b7 b3 :: Ro.sl kS28 b4 b5 a9 :: Ro.sl kS28 (some ⟨b0, 0, none⟩) 2 a8 :: rs) := hS.re [] [] rfl (sub_cons 1 rfl (sub_cons 0 rfl (sub_tail (sub_tail (sub_self)))))
        have hq := trace_Kinds.calls g2 hS
        refine ED.one 35 13 (bm 49 68719476735) (by kernel_rfl) (by kernel_rfl) (by kernel_rfl) (EO.callD 21 [sv (some a3) a1 a0, sv (some ⟨i2, 0, none⟩) 1 c7] _ 56 (by kernel_rfl) (by kernel_rfl) (by kernel_rfl) hq ?_)
        rintro v w ⟨m5, o0, rfl, hS⟩
        have hC := hC.again ⟨_, _, hS.re [4] [] rfl (sub_cons 0 rfl (sub_cons 5 rfl (sub_cons 6 rfl (sub_cons 4 rfl (sub_cons 7 rfl sub_self)))))⟩
        refine ⟨hC, ?_⟩
        refine ED.quick hN hF hC [36] [2, 53, 57] 12 [(2, pt a2 0), (53, .bool (true)), (57, ia (d1.length : Int))] (bm 49 137438953471) (by kernel_rfl) (by kernel_rfl) ?_
        refine ED.keep [2, 53, 57] [(2, pt a2 0), (53, .bool (true)), (57, ia (d1.length : Int))] (by kernel_rfl) ?_
        refine ED.as' [(2, pt a2 0), (53, .bool (true)), (57, ia 1)] (by simp only [encS28, sv, d9]) ?_
        refine ED.quick hN hF hC [37, 38, 39] [2, 60] 9 [(2, pt a2 0), (60, .bool (true))] (bm 49 1099511627775) (by kernel_rfl) (by kernel_rfl) ?_
        refine ED.Y hN hF hC 40 8 (bm 49 2199023255551) (by kernel_rfl) (by kernel_rfl) rfl (fun _ _ _ hS => YO.loadBox hS 0 rfl 28 0 7 (ag [ia 3, ia 0, ia 1, ia 1, ib 65536, ib 0, ib 0]) 61 (by kernel_rfl) (by kernel_rfl) (by kernel_rfl) (by kernel_rfl)) ?_
        have hq := trace_Right.calls i5 hS
        refine ED.one 41 7 (bm 49 4398046511103) (by kernel_rfl) (by kernel_rfl) (by kernel_rfl) (EO.callD 23 [ag [ia 3, ia 0, ia 1, ia 1, ib 65536, ib 0, ib 0]] _ 62 (by kernel_rfl) (by kernel_rfl) (by kernel_rfl) hq ?_)
        rintro v w ⟨rfl, hS⟩
        have hC := hC.again ⟨_, _, hS.re [4] [] rfl (sub_cons 0 rfl (sub_cons 5 rfl (sub_cons 6 rfl (sub_cons 4 rfl (sub_cons 7 rfl sub_self)))))⟩
        refine ⟨hC, ?_⟩
        refine ED.quick hN hF hC [42, 43] [64] 5 [(64, .bool (d5))] (bm 49 17592186044415) (by kernel_rfl) (by kernel_rfl) ?_
        refine ED.keep [64] [(64, .bool (d5))] (by kernel_rfl) ?_
        refine ED.as' [(64, .bool (false))] (by simp only [encS28, sv, (Bool.eq_false_iff.2 e9), Bool.not_true, Bool.not_false]) ?_
        refine ED.quick hN hF hC [44, 45, 46, 47, 48] [0] 0 [(0, .bool (false))] (bm 49 562949953421311) (by kernel_rfl) (by kernel_rfl) ?_
        refine ED.done (by kernel_rfl) ?_
        refine EQ.code ?_
        refine EW.ret (by kernel_rfl) ?_
        obtain rfl := Option.some.inj H
        exact EQ.leave (.bool (false)) (by kernel_rfl) ⟨_, rfl, rfl, (hS.re [] [0, 0, 0, 0, 0] rfl (sub_tail (sub_tail (sub_tail (sub_tail (sub_tail (sub_tail (sub_tail (sub_tail (sub_self))))))))))⟩
       rw [if_neg d9] at H
       have hS := hS.drew
       refine EW.dr (B := B) [Ass.box 28 a2 [ia 3, ia 0, ia 1, ia 1, ib 65536, ib 0, ib 0]] [Ro.sl kS28 (some a3) a1 a0, Ro.sl (Kd.int .u8) b6 b7 b3, Ro.sl kS28 b4 b5 a9, Ro.sl kS28 a6 a7 a5, Ro.sl kS28 (some ⟨b0, 0, none⟩) 2 a8] (by kernel_rfl) (by kernel_rfl) ?_
       have hN : Region.noSelect Cd11.r.r.r.r.r.r.l.ops = true := (by kernel_rfl)
       have hF : freeAll Cd11.r.r.r.r.r.r.l.ops = true := (by kernel_rfl)
       have hC : Core B [Ass.box 28 a2 [ia 3, ia 0, ia 1, ia 1, ib 65536, ib 0, ib 0]] [Ro.sl kS28 (some a3) a1 a0, Ro.sl (Kd.int .u8) b6 b7 b3, Ro.sl kS28 b4 b5 a9, Ro.sl kS28 a6 a7 a5, Ro.sl kS28 (some ⟨b0, 0, none⟩) 2 a8] _ := ⟨_, _, hS.re [1] [] rfl sub_self⟩
       refine ED.quick hN hF hC [0] [2, 3, 4, 21] 48 [(2, pt a2 0), (3, sv (some a3) a1 a0), (4, ia b9), (21, pt a4 0)] (bm 49 1) (by kernel_rfl) (by kernel_rfl) ?_
       refine ED.keep [2, 3, 4, 21] [(2, pt a2 0), (3, sv (some a3) a1 a0), (4, ia b9), (21, pt a4 0)] (by kernel_rfl) ?_
       refine ED.as' [(2, pt a2 0), (3, sv (some a3) a1 a0), (4, ia 0), (21, pt a4 0)] (by simp only [encS28, sv, c8]) ?_
       have hS : St B _ (Ass.box 75 a4 [sv a6 a7 a5] :: Ass.box 28 a2 [ia 3, ia 0, ia 1, ia 1, ib 65536, ib 0, ib 0] :: os) (Ro.sl kS28 a6 a7 a5 :: Ro.sl kS28 (some a3) a1 a0 :: Ro.sl (Kd.int .u8) b6 b7 b3 :: Ro.sl kS28 b4 b5 a9 :: Ro.sl kS28 (some ⟨b0, 0, none⟩) 2 a8 :: rs) := hS.re [0] [] rfl (sub_cons 3 rfl (sub_cons 0 rfl (sub_cons 1 rfl (sub_cons 2 rfl (sub_tail (sub_tail (sub_tail (sub_tail (sub_self)))))))))
       have hq := trace_Trace_All_18.calls d0 hS
       refine ED.one 1 47 (bm 49 3) (by kernel_rfl) (by kernel_rfl) (by kernel_rfl) (EO.callD 18 [pt a4 0] _ 22 (by kernel_rfl) (by kernel_rfl) (by kernel_rfl) hq ?_)
       rintro v w ⟨e4, e8, g5, g9, rfl, hS⟩
       have hC := hC.again ⟨_, _, hS.re [2] [] rfl (sub_cons 2 rfl (sub_cons 3 rfl (sub_cons 4 rfl (sub_cons 1 rfl (sub_cons 5 rfl sub_self)))))⟩
       refine ⟨hC, ?_⟩
       refine ED.quick hN hF hC [2] [2, 3, 4, 23] 46 [(2, pt a2 0), (3, sv (some a3) a1 a0), (4, ia 0), (23, ia (c0.length : Int))] (bm 49 7) (by kernel_rfl) (by kernel_rfl) ?_
       refine ED.keep [2, 3, 4, 23] [(2, pt a2 0), (3, sv (some a3) a1 a0), (4, ia 0), (23, ia (c0.length : Int))] (by kernel_rfl) ?_
       refine ED.as' [(2, pt a2 0), (3, sv (some a3) a1 a0), (4, ia 0), (23, ia 2)] (by simp only [encS28, sv, c6]) ?_
       refine ED.quick hN hF hC [3, 4, 5, 6, 7, 8, 9, 10] [2, 3, 29, 31] 38 [(2, pt a2 0), (3, sv (some a3) a1 a0), (29, .bool (true)), (31, ia (a0.length : Int))] (bm 49 2047) (by kernel_rfl) (by kernel_rfl) ?_
       refine ED.keep [2, 3, 29, 31] [(2, pt a2 0), (3, sv (some a3) a1 a0), (29, .bool (true)), (31, ia (a0.length : Int))] (by kernel_rfl) ?_
       refine ED.as' [(2, pt a2 0), (3, sv (some a3) a1 a0), (29, .bool (true)), (31, ia 2)] (by simp only [encS28, sv, c9]) ?_
       refine ED.quick hN hF hC [11, 12, 13, 14] [2, 3, 34, 35] 34 [(2, pt a2 0), (3, sv (some a3) a1 a0), (34, .bool (true)), (35, sv (some a3) a1 a0)] (bm 49 32767) (by kernel_rfl) (by kernel_rfl) ?_
       refine ED.Y hN hF hC 15 33 (bm 49 65535) (by kernel_rfl) (by kernel_rfl) rfl (fun _ _ _ hS => YO.idx 22 7 a3 a0.length a1 .i64 0 36 (by kernel_rfl) (by kernel_rfl) (by kernel_rfl) (by kernel_rfl) (by decide) c4) ?_
       refine ED.Y hN hF hC 16 32 (bm 49 131071) (by kernel_rfl) (by kernel_rfl) rfl (fun _ _ _ hS => YO.loadEl hS kS28 a3 a1 a0 (Rd.ro 0 rfl) zS28 encS28 encS28_of 0 (by decide) c4 28 7 0 7 rfl (ag (encS28 (a0.getD (0 : Int).toNat zS28))) 37 (by kernel_rfl) (by kernel_rfl) (by kernel_rfl) (by kernel_rfl)) ?_
       refine ED.Y hN hF hC 17 31 (bm 49 262143) (by kernel_rfl) (by kernel_rfl) rfl (fun _ _ _ hS => YO.loadBox hS 0 rfl 28 0 7 (ag [ia 3, ia 0, ia 1, ia 1, ib 65536, ib 0, ib 0]) 38 (by kernel_rfl) (by kernel_rfl) (by kernel_rfl) (by kernel_rfl)) ?_
       refine ED.Y hN hF hC 18 30 (bm 49 524287) (by kernel_rfl) (by kernel_rfl) rfl (fun _ _ _ hS => YO.eqAg .eql 28 (.tmp 37) (.tmp 38) #[ia ((a0.getD (0 : Int).toNat zS28).f0), ia ((a0.getD (0 : Int).toNat zS28).f1), ia ((a0.getD (0 : Int).toNat zS28).f2), ia ((a0.getD (0 : Int).toNat zS28).f3), ib ((a0.getD (0 : Int).toNat zS28).f4), ib ((a0.getD (0 : Int).toNat zS28).f5), ib ((a0.getD (0 : Int).toNat zS28).f6)] #[ia 3, ia 0, ia 1, ia 1, ib 65536, ib 0, ib 0] ((((a0.getD (0 : Int).toNat zS28).f0) == (3 : Int)) && ((((a0.getD (0 : Int).toNat zS28).f1) == (0 : Int)) && ((((a0.getD (0 : Int).toNat zS28).f2) == (1 : Int)) && ((((a0.getD (0 : Int).toNat zS28).f3) == (1 : Int)) && ((((a0.getD (0 : Int).toNat zS28).f4) == (65536 : Int)) && ((((a0.getD (0 : Int).toNat zS28).f5) == (0 : Int)) && ((((a0.getD (0 : Int).toNat zS28).f6) == (0 : Int)) && true))))))) (((((a0.getD (0 : Int).toNat zS28).f0) == (3 : Int)) && ((((a0.getD (0 : Int).toNat zS28).f1) == (0 : Int)) && ((((a0.getD (0 : Int).toNat zS28).f2) == (1 : Int)) && ((((a0.getD (0 : Int).toNat zS28).f3) == (1 : Int)) && ((((a0.getD (0 : Int).toNat zS28).f4) == (65536 : Int)) && ((((a0.getD (0 : Int).toNat zS28).f5) == (0 : Int)) && ((((a0.getD (0 : Int).toNat zS28).f6) == (0 : Int)) && true)))))))) 39 (by kernel_rfl) (by kernel_rfl) (by kernel_rfl) (by kernel_rfl) (by kernel_rfl) (.inl ⟨rfl, rfl⟩)) ?_
       refine ED.quick hN hF hC [19, 20] [2, 3, 41] 28 [(2, pt a2 0), (3, sv (some a3) a1 a0), (41, .bool (((((a0.getD (0 : Int).toNat zS28).f0) == (3 : Int)) && ((((a0.getD (0 : Int).toNat zS28).f1) == (0 : Int)) && ((((a0.getD (0 : Int).toNat zS28).f2) == (1 : Int)) && ((((a0.getD (0 : Int).toNat zS28).f3) == (1 : Int)) && ((((a0.getD (0 : Int).toNat zS28).f4) == (65536 : Int)) && ((((a0.getD (0 : Int).toNat zS28).f5) == (0 : Int)) && ((((a0.getD (0 : Int).toNat zS28).f6) == (0 : Int)) && true)))))))))] (bm 49 2097151) (by kernel_rfl) (by kernel_rfl) ?_
       refine ED.keep [2, 3, 41] [(2, pt a2 0), (3, sv (some a3) a1 a0), (41, .bool (((((a0.getD (0 : Int).toNat zS28).f0) == (3 : Int)) && ((((a0.getD (0 : Int).toNat zS28).f1) == (0 : Int)) && ((((a0.getD (0 : Int).toNat zS28).f2) == (1 : Int)) && ((((a0.getD (0 : Int).toNat zS28).f3) == (1 : Int)) && ((((a0.getD (0 : Int).toNat zS28).f4) == (65536 : Int)) && ((((a0.getD (0 : Int).toNat zS28).f5) == (0 : Int)) && ((((a0.getD (0 : Int).toNat zS28).f6) == (0 : Int)) && true)))))))))] (by kernel_rfl) ?_
       refine ED.as' [(2, pt a2 0), (3, sv (some a3) a1 a0), (41, .bool (true))] (by simp only [encS28, sv, d2, Bool.not_true, Bool.not_false]) ?_
       refine ED.Y hN hF hC 21 27 (bm 49 4194303) (by kernel_rfl) (by kernel_rfl) rfl (fun _ _ _ hS => YO.loadBox hS 0 rfl 28 0 7 (ag [ia 3, ia 0, ia 1, ia 1, ib 65536, ib 0, ib 0]) 42 (by kernel_rfl) (by kernel_rfl) (by kernel_rfl) (by kernel_rfl)) ?_
       have hq := trace_Text.calls e0 hS gB
       refine ED.one 22 26 (bm 49 8388607) (by kernel_rfl) (by kernel_rfl) (by kernel_rfl) (EO.callD 25 [ag [ia 3, ia 0, ia 1, ia 1, ib 65536, ib 0, ib 0]] _ 43 (by kernel_rfl) (by kernel_rfl) (by kernel_rfl) hq ?_)
       rintro v w ⟨rfl, hS⟩
       have hC := hC.again ⟨_, _, hS.re [2] [] rfl (sub_cons 2 rfl (sub_cons 3 rfl (sub_cons 4 rfl (sub_cons 1 rfl (sub_cons 5 rfl sub_self)))))⟩
       refine ⟨hC, ?_⟩
       refine ED.quick hN hF hC [23, 24, 25] [2, 3, 46] 23 [(2, pt a2 0), (3, sv (some a3) a1 a0), (46, .bool ((c5.toList == (⟨#[51, 32, 48, 32, 116, 97, 107, 101, 32, 49, 32, 54, 53, 53, 51, 54, 32, 48, 32, 48]⟩ : ByteArray).toList)))] (bm 49 67108863) (by kernel_rfl) (by kernel_rfl) ?_
       refine ED.keep [2, 3, 46] [(2, pt a2 0), (3, sv (some a3) a1 a0), (46, .bool ((c5.toList == (⟨#[51, 32, 48, 32, 116, 97, 107, 101, 32, 49, 32, 54, 53, 53, 51, 54, 32, 48, 32, 48]⟩ : ByteArray).toList)))] (by kernel_rfl) ?_
       refine ED.as' [(2, pt a2 0), (3, sv (some a3) a1 a0), (46, .bool (true))] (by simp only [encS28, sv, d4, Bool.not_true, Bool.not_false]) ?_
       refine ED.quick hN hF hC [26] [2, 3, 46, 47] 22 [(2, pt a2 0), (3, sv (some a3) a1 a0), (46, .bool (true)), (47, sv (some a3) a1 a0)] (bm 49 134217727) (by kernel_rfl) (by kernel_rfl) ?_
       refine ED.one 27 21 (bm 49 268435455) (by kernel_rfl) (by kernel_rfl) (by kernel_rfl) (EO.lit hS (Kd.int .i64) 3 24 1 #[(0, ia 2)] [ia 2] c1 48 (by kernel_rfl) (by kernel_rfl) (by kernel_rfl) (fun _ => (by kernel_rfl)) (by rw [d3]; rfl) (by kernel_rfl) (fun w G hr => (by rw [d3]; exact ⟨[ia 2], [], rfl, rfl, rfl⟩)) ?_)
       intro g1 w hS
       have hC := hC.again ⟨_, _, hS.re [3] [] rfl (sub_cons 2 rfl (sub_cons 3 rfl (sub_cons 4 rfl (sub_cons 1 rfl (sub_cons 5 rfl sub_self)))))⟩
       refine ⟨hC, ?_⟩
       have hS := St.fr hS 0 rfl
       have hS : St B _ (Ass.box 75 a4 [sv e4 e8 c2] :: Ass.own 28 kS28 g5 g9 c0 :: Ass.box 28 a2 [ia 3, ia 0, ia 1, ia 1, ib 65536, ib 0, ib 0] :: os) (Ro.sl kS28 (some a3) a1 a0 :: Ro.sl (Kd.int .i64) (some ⟨g1, 0, none⟩) 1 c1 :: Ro.sl kS28 e4 e8 c2 :: Ro.sl kS28 a6 a7 a5 :: Ro.sl (Kd.int .u8) b6 b7 b3 :: Ro.sl kS28 b4 b5 a9 :: Ro.sl kS28 (some ⟨b0, 0, none⟩) 2 a8 :: rs) := hS.re [] [] rfl (sub_cons 3 rfl (sub_cons 0 rfl (sub_cons 1 rfl (sub_cons 2 rfl (sub_tail (sub_tail (sub_tail (sub_tail (sub_self)))))))))
       have hq := trace_Of.calls f7 hS
       refine ED.one 28 20 (bm 49 536870911) (by kernel_rfl) (by kernel_rfl) (by kernel_rfl) (EO.callD 19 [sv (some a3) a1 a0, sv (some ⟨g1, 0, none⟩) 1 c1] _ 49 (by kernel_rfl) (by kernel_rfl) (by kernel_rfl) hq ?_)
       rintro v w ⟨j1, j5, rfl, hS⟩
       have hC := hC.again ⟨_, _, hS.re [3] [] rfl (sub_cons 0 rfl (sub_cons 4 rfl (sub_cons 5 rfl (sub_cons 3 rfl (sub_cons 6 rfl sub_self)))))⟩
       refine ⟨hC, ?_⟩
       refine ED.quick hN hF hC [29] [2, 3, 46, 50] 19 [(2, pt a2 0), (3, sv (some a3) a1 a0), (46, .bool (true)), (50, ia (c3.length : Int))] (bm 49 1073741823) (by kernel_rfl) (by kernel_rfl) ?_
       refine ED.keep [2, 3, 46, 50] [(2, pt a2 0), (3, sv (some a3) a1 a0), (46, .bool (true)), (50, ia (c3.length : Int))] (by kernel_rfl) ?_
       refine ED.as' [(2, pt a2 0), (3, sv (some a3) a1 a0), (46, .bool (true)), (50, ia 1)] (by simp only [encS28, sv, d6]) ?_
       refine ED.quick hN hF hC [30, 31, 32, 33] [2, 53, 54] 15 [(2, pt a2 0), (53, .bool (true)), (54, sv (some a3) a1 a0)] (bm 49 17179869183) (by kernel_rfl) (by kernel_rfl) ?_
       refine ED.one 34 14 (bm 49 34359738367) (by kernel_rfl) (by kernel_rfl) (by kernel_rfl) (EO.lit hS (Kd.int .i64) 3 24 1 #[(0, ia 1)] [ia 1] c7 55 (by kernel_rfl) (by kernel_rfl) (by kernel_rfl) (fun _ => (by kernel_rfl)) (by rw [d7]; rfl) (by kernel_rfl) (fun w G hr => (by rw [d7]; exact ⟨[ia 1], [], rfl, rfl, rfl⟩)) ?_)
       intro i3 w hS
       have hC := hC.again ⟨_, _, hS.re [4] [] rfl (sub_cons 0 rfl (sub_cons 4 rfl (sub_cons 5 rfl (sub_cons 3 rfl (sub_cons 6 rfl sub_self)))))⟩
       refine ⟨hC, ?_⟩
       have hS := St.fr hS 0 rfl
       have hS : St B _ (Ass.own 28 kS28 j1 j5 c3 :: Ass.box 75 a4 [sv e4 e8 c2] :: Ass.own 28 kS28 g5 g9 c0 :: Ass.box 28 a2 [ia 3, ia 0, ia 1, ia 1, ib 65536, ib 0, ib 0] :: os) (Ro.sl kS28 (some a3) a1 a0 :: Ro.sl (Kd.int .i64) (some ⟨i3, 0, none⟩) 1 c7 :: Ro.sl (Kd.int .i64) (some ⟨g1, 0, none⟩) 1 c1 :: Ro.sl kS28 e4 e8 c2 :: Ro.sl kS28 a6 a7 a5 :: Ro.sl (Kd.int .u8) b6 b7 b3 :: Ro.sl kS28 b4 b5 a9 :: Ro.sl kS28 (some ⟨b0, 0, none⟩) 2 a8 :: rs) := hS.re [] [] rfl (sub_cons 1 rfl (sub_cons 0 rfl (sub_tail (sub_tail (sub_self)))))
       have hq := trace_Kinds.calls g2 hS
       refine ED.one 35 13 (bm 49 68719476735) (by kernel_rfl) (by kernel_rfl) (by kernel_rfl) (EO.callD 21 [sv (some a3) a1 a0, sv (some ⟨i3, 0, none⟩) 1 c7] _ 56 (by kernel_rfl) (by kernel_rfl) (by kernel_rfl) hq ?_)
       rintro v w ⟨m6, o1, rfl, hS⟩
       have hC := hC.again ⟨_, _, hS.re [4] [] rfl (sub_cons 0 rfl (sub_cons 5 rfl (sub_cons 6 rfl (sub_cons 4 rfl (sub_cons 7 rfl sub_self)))))⟩
       refine ⟨hC, ?_⟩
       refine ED.quick hN hF hC [36, 37, 38, 39] [2, 60] 9 [(2, pt a2 0), (60, .bool (decide ((d1.length : Int) = 1)))] (bm 49 1099511627775) (by kernel_rfl) (by kernel_rfl) ?_
       refine ED.keep [2, 60] [(2, pt a2 0), (60, .bool (decide ((d1.length : Int) = 1)))] (by kernel_rfl) ?_
       refine ED.as' [(2, pt a2 0), (60, .bool (false))] (by simp only [encS28, sv, dec_f d9, Bool.not_true, Bool.not_false]) ?_
       refine ED.quick hN hF hC [40, 41, 42, 43, 44, 45, 46, 47, 48] [0] 0 [(0, .bool (false))] (bm 49 562949953421311) (by kernel_rfl) (by kernel_rfl) ?_
       refine ED.done (by kernel_rfl) ?_
       refine EQ.code ?_
       refine EW.ret (by kernel_rfl) ?_
       obtain rfl := Option.some.inj H
       exact EQ.leave (.bool (false)) (by kernel_rfl) ⟨_, rfl, rfl, (hS.re [] [0, 0, 0, 0, 0] rfl (sub_tail (sub_tail (sub_tail (sub_tail (sub_tail (sub_tail (sub_tail (sub_tail (sub_self))))))))))⟩
      rw [if_neg d6] at H
      have hS := hS.drew
      refine EW.dr (B := B) [Ass.box 28 a2 [ia 3, ia 0, ia 1, ia 1, ib 65536, ib 0, ib 0]] [Ro.sl kS28 (some a3) a1 a0, Ro.sl (Kd.int .u8) b6 b7 b3, Ro.sl kS28 b4 b5 a9, Ro.sl kS28 a6 a7 a5, Ro.sl kS28 (some ⟨b0, 0, none⟩) 2 a8] (by kernel_rfl) (by kernel_rfl) ?_
      have hN : Region.noSelect Cd11.r.r.r.r.r.r.l.ops = true := (by kernel_rfl)
      have hF : freeAll Cd11.r.r.r.r.r.r.l.ops = true := (by kernel_rfl)
      have hC : Core B [Ass.box 28 a2 [ia 3, ia 0, ia 1, ia 1, ib 65536, ib 0, ib 0]] [Ro.sl kS28 (some a3) a1 a0, Ro.sl (Kd.int .u8) b6 b7 b3, Ro.sl kS28 b4 b5 a9, Ro.sl kS28 a6 a7 a5, Ro.sl kS28 (some ⟨b0, 0, none⟩) 2 a8] _ := ⟨_, _, hS.re [1] [] rfl sub_self⟩
      refine ED.quick hN hF hC [0] [2, 3, 4, 21] 48 [(2, pt a2 0), (3, sv (some a3) a1 a0), (4, ia b9), (21, pt a4 0)] (bm 49 1) (by kernel_rfl) (by kernel_rfl) ?_
      refine ED.keep [2, 3, 4, 21] [(2, pt a2 0), (3, sv (some a3) a1 a0), (4, ia b9), (21, pt a4 0)] (by kernel_rfl) ?_
      refine ED.as' [(2, pt a2 0), (3, sv (some a3) a1 a0), (4, ia 0), (21, pt a4 0)] (by simp only [encS28, sv, c8]) ?_
      have hS : St B _ (Ass.box 75 a4 [sv a6 a7 a5] :: Ass.box 28 a2 [ia 3, ia 0, ia 1, ia 1, ib 65536, ib 0, ib 0] :: os) (Ro.sl kS28 a6 a7 a5 :: Ro.sl kS28 (some a3) a1 a0 :: Ro.sl (Kd.int .u8) b6 b7 b3 :: Ro.sl kS28 b4 b5 a9 :: Ro.sl kS28 (some ⟨b0, 0, none⟩) 2 a8 :: rs) := hS.re [0] [] rfl (sub_cons 3 rfl (sub_cons 0 rfl (sub_cons 1 rfl (sub_cons 2 rfl (sub_tail (sub_tail (sub_tail (sub_tail (sub_self)))))))))
      have hq := trace_Trace_All_18.calls d0 hS
      refine ED.one 1 47 (bm 49 3) (by kernel_rfl) (by kernel_rfl) (by kernel_rfl) (EO.callD 18 [pt a4 0] _ 22 (by kernel_rfl) (by kernel_rfl) (by kernel_rfl) hq ?_)
      rintro v w ⟨g6, i0, j2, j6, rfl, hS⟩
      have hC := hC.again ⟨_, _, hS.re [2] [] rfl (sub_cons 2 rfl (sub_cons 3 rfl (sub_cons 4 rfl (sub_cons 1 rfl (sub_cons 5 rfl sub_self)))))⟩
      refine ⟨hC, ?_⟩
      refine ED.quick hN hF hC [2] [2, 3, 4, 23] 46 [(2, pt a2 0), (3, sv (some a3) a1 a0), (4, ia 0), (23, ia (c0.length : Int))] (bm 49 7) (by kernel_rfl) (by kernel_rfl) ?_
      refine ED.keep [2, 3, 4, 23] [(2, pt a2 0), (3, sv (some a3) a1 a0), (4, ia 0), (23, ia (c0.length : Int))] (by kernel_rfl) ?_
      refine ED.as' [(2, pt a2 0), (3, sv (some a3) a1 a0), (4, ia 0), (23, ia 2)] (by simp only [encS28, sv, c6]) ?_
      refine ED.quick hN hF hC [3, 4, 5, 6, 7, 8, 9, 10] [2, 3, 29, 31] 38 [(2, pt a2 0), (3, sv (some a3) a1 a0), (29, .bool (true)), (31, ia (a0.length : Int))] (bm 49 2047) (by kernel_rfl) (by kernel_rfl) ?_
      refine ED.keep [2, 3, 29, 31] [(2, pt a2 0), (3, sv (some a3) a1 a0), (29, .bool (true)), (31, ia (a0.length : Int))] (by kernel_rfl) ?_
      refine ED.as' [(2, pt a2 0), (3, sv (some a3) a1 a0), (29, .bool (true)), (31, ia 2)] (by simp only [encS28, sv, c9]) ?_
      refine ED.quick hN hF hC [11, 12, 13, 14] [2, 3, 34, 35] 34 [(2, pt a2 0), (3, sv (some a3) a1 a0), (34, .bool (true)), (35, sv (some a3) a1 a0)] (bm 49 32767) (by kernel_rfl) (by kernel_rfl) ?_
      refine ED.Y hN hF hC 15 33 (bm 49 65535) (by kernel_rfl) (by kernel_rfl) rfl (fun _ _ _ hS => YO.idx 22 7 a3 a0.length a1 .i64 0 36 (by kernel_rfl) (by kernel_rfl) (by kernel_rfl) (by kernel_rfl) (by decide) c4) ?_
      refine ED.Y hN hF hC 16 32 (bm 49 131071) (by kernel_rfl) (by kernel_rfl) rfl (fun _ _ _ hS => YO.loadEl hS kS28 a3 a1 a0 (Rd.ro 0 rfl) zS28 encS28 encS28_of 0 (by decide) c4 28 7 0 7 rfl (ag (encS28 (a0.getD (0 : Int).toNat zS28))) 37 (by kernel_rfl) (by kernel_rfl) (by kernel_rfl) (by kernel_rfl)) ?_
      refine ED.Y hN hF hC 17 31 (bm 49 262143) (by kernel_rfl) (by kernel_rfl) rfl (fun _ _ _ hS => YO.loadBox hS 0 rfl 28 0 7 (ag [ia 3, ia 0, ia 1, ia 1, ib 65536, ib 0, ib 0]) 38 (by kernel_rfl) (by kernel_rfl) (by kernel_rfl) (by kernel_rfl)) ?_
      refine ED.Y hN hF hC 18 30 (bm 49 524287) (by kernel_rfl) (by kernel_rfl) rfl (fun _ _ _ hS => YO.eqAg .eql 28 (.tmp 37) (.tmp 38) #[ia ((a0.getD (0 : Int).toNat zS28).f0), ia ((a0.getD (0 : Int).toNat zS28).f1), ia ((a0.getD (0 : Int).toNat zS28).f2), ia ((a0.getD (0 : Int).toNat zS28).f3), ib ((a0.getD (0 : Int).toNat zS28).f4), ib ((a0.getD (0 : Int).toNat zS28).f5), ib ((a0.getD (0 : Int).toNat zS28).f6)] #[ia 3, ia 0, ia 1, ia 1, ib 65536, ib 0, ib 0] ((((a0.getD (0 : Int).toNat zS28).f0) == (3 : Int)) && ((((a0.getD (0 : Int).toNat zS28).f1) == (0 : Int)) && ((((a0.getD (0 : Int).toNat zS28).f2) == (1 : Int)) && ((((a0.getD (0 : Int).toNat zS28).f3) == (1 : Int)) && ((((a0.getD (0 : Int).toNat zS28).f4) == (65536 : Int)) && ((((a0.getD (0 : Int).toNat zS28).f5) == (0 : Int)) && ((((a0.getD (0 : Int).toNat zS28).f6) == (0 : Int)) && true))))))) (((((a0.getD (0 : Int).toNat zS28).f0) == (3 : Int)) && ((((a0.getD (0 : Int).toNat zS28).f1) == (0 : Int)) && ((((a0.getD (0 : Int).toNat zS28).f2) == (1 : Int)) && ((((a0.getD (0 : Int).toNat zS28).f3) == (1 : Int)) && ((((a0.getD (0 : Int).toNat zS28).f4) == (65536 : Int)) && ((((a0.getD (0 : Int).toNat zS28).f5) == (0 : Int)) && ((((a0.getD (0 : Int).toNat zS28).f6) == (0 : Int)) && true)))))))) 39 (by kernel_rfl) (by kernel_rfl) (by kernel_rfl) (by kernel_rfl) (by kernel_rfl) (.inl ⟨rfl, rfl⟩)) ?_
      refine ED.quick hN hF hC [19, 20] [2, 3, 41] 28 [(2, pt a2 0), (3, sv (some a3) a1 a0), (41, .bool (((((a0.getD (0 : Int).toNat zS28).f0) == (3 : Int)) && ((((a0.getD (0 : Int).toNat zS28).f1) == (0 : Int)) && ((((a0.getD (0 : Int).toNat zS28).f2) == (1 : Int)) && ((((a0.getD (0 : Int).toNat zS28).f3) == (1 : Int)) && ((((a0.getD (0 : Int).toNat zS28).f4) == (65536 : Int)) && ((((a0.getD (0 : Int).toNat zS28).f5) == (0 : Int)) && ((((a0.getD (0 : Int).toNat zS28).f6) == (0 : Int)) && true)))))))))] (bm 49 2097151) (by kernel_rfl) (by kernel_rfl) ?_
      refine ED.keep [2, 3, 41] [(2, pt a2 0), (3, sv (some a3) a1 a0), (41, .bool (((((a0.getD (0 : Int).toNat zS28).f0) == (3 : Int)) && ((((a0.getD (0 : Int).toNat zS28).f1) == (0 : Int)) && ((((a0.getD (0 : Int).toNat zS28).f2) == (1 : Int)) && ((((a0.getD (0 : Int).toNat zS28).f3) == (1 : Int)) && ((((a0.getD (0 : Int).toNat zS28).f4) == (65536 : Int)) && ((((a0.getD (0 : Int).toNat zS28).f5) == (0 : Int)) && ((((a0.getD (0 : Int).toNat zS28).f6) == (0 : Int)) && true)))))))))] (by kernel_rfl) ?_
      refine ED.as' [(2, pt a2 0), (3, sv (some a3) a1 a0), (41, .bool (true))] (by simp only [encS28, sv, d2, Bool.not_true, Bool.not_false]) ?_
      refine ED.Y hN hF hC 21 27 (bm 49 4194303) (by kernel_rfl) (by kernel_rfl) rfl (fun _ _ _ hS => YO.loadBox hS 0 rfl 28 0 7 (ag [ia 3, ia 0, ia 1, ia 1, ib 65536, ib 0, ib 0]) 42 (by kernel_rfl) (by kernel_rfl) (by kernel_rfl) (by kernel_rfl)) ?_
      have hq := trace_Text.calls e0 hS gB
      refine ED.one 22 26 (bm 49 8388607) (by kernel_rfl) (by kernel_rfl) (by kernel_rfl) (EO.callD 25 [ag [ia 3, ia 0, ia 1, ia 1, ib 65536, ib 0, ib 0]] _ 43 (by kernel_rfl) (by kernel_rfl) (by kernel_rfl) hq ?_)
      rintro v w ⟨rfl, hS⟩
      have hC := hC.again ⟨_, _, hS.re [2] [] rfl (sub_cons 2 rfl (sub_cons 3 rfl (sub_cons 4 rfl (sub_cons 1 rfl (sub_cons 5 rfl sub_self)))))⟩
      refine ⟨hC, ?_⟩
      refine ED.quick hN hF hC [23, 24, 25] [2, 3, 46] 23 [(2, pt a2 0), (3, sv (some a3) a1 a0), (46, .bool ((c5.toList == (⟨#[51, 32, 48, 32, 116, 97, 107, 101, 32, 49, 32, 54, 53, 53, 51, 54, 32, 48, 32, 48]⟩ : ByteArray).toList)))] (bm 49 67108863) (by kernel_rfl) (by kernel_rfl) ?_
      refine ED.keep [2, 3, 46] [(2, pt a2 0), (3, sv (some a3) a1 a0), (46, .bool ((c5.toList == (⟨#[51, 32, 48, 32, 116, 97, 107, 101, 32, 49, 32, 54, 53, 53, 51, 54, 32, 48, 32, 48]⟩ : ByteArray).toList)))] (by kernel_rfl) ?_
      refine ED.as' [(2, pt a2 0), (3, sv (some a3) a1 a0), (46, .bool (true))] (by simp only [encS28, sv, d4, Bool.not_true, Bool.not_false]) ?_
      refine ED.quick hN hF hC [26] [2, 3, 46, 47] 22 [(2, pt a2 0), (3, sv (some a3) a1 a0), (46, .bool (true)), (47, sv (some a3) a1 a0)] (bm 49 134217727) (by kernel_rfl) (by kernel_rfl) ?_
      refine ED.one 27 21 (bm 49 268435455) (by kernel_rfl) (by kernel_rfl) (by kernel_rfl) (EO.lit hS (Kd.int .i64) 3 24 1 #[(0, ia 2)] [ia 2] c1 48 (by kernel_rfl) (by kernel_rfl) (by kernel_rfl) (fun _ => (by kernel_rfl)) (by rw [d3]; rfl) (by kernel_rfl) (fun w G hr => (by rw [d3]; exact ⟨[ia 2], [], rfl, rfl, rfl⟩)) ?_)
      intro i4 w hS
      have hC := hC.again ⟨_, _, hS.re [3] [] rfl (sub_cons 2 rfl (sub_cons 3 rfl (sub_cons 4 rfl (sub_cons 1 rfl (sub_cons 5 rfl sub_self)))))⟩
      refine ⟨hC, ?_⟩
      have hS := St.fr hS 0 rfl
      have hS : St B _ (Ass.box 75 a4 [sv g6 i0 c2] :: Ass.own 28 kS28 j2 j6 c0 :: Ass.box 28 a2 [ia 3, ia 0, ia 1, ia 1, ib 65536, ib 0, ib 0] :: os) (Ro.sl kS28 (some a3) a1 a0 :: Ro.sl (Kd.int .i64) (some ⟨i4, 0, none⟩) 1 c1 :: Ro.sl kS28 g6 i0 c2 :: Ro.sl kS28 a6 a7 a5 :: Ro.sl (Kd.int .u8) b6 b7 b3 :: Ro.sl kS28 b4 b5 a9 :: Ro.sl kS28 (some ⟨b0, 0, none⟩) 2 a8 :: rs) := hS.re [] [] rfl (sub_cons 3 rfl (sub_cons 0 rfl (sub_cons 1 rfl (sub_cons 2 rfl (sub_tail (sub_tail (sub_tail (sub_tail (sub_self)))))))))
      have hq := trace_Of.calls f7 hS
      refine ED.one 28 20 (bm 49 536870911) (by kernel_rfl) (by kernel_rfl) (by kernel_rfl) (EO.callD 19 [sv (some a3) a1 a0, sv (some ⟨i4, 0, none⟩) 1 c1] _ 49 (by kernel_rfl) (by kernel_rfl) (by kernel_rfl) hq ?_)
      rintro v w ⟨m7, o2, rfl, hS⟩
      have hC := hC.again ⟨_, _, hS.re [3] [] rfl (sub_cons 0 rfl (sub_cons 4 rfl (sub_cons 5 rfl (sub_cons 3 rfl (sub_cons 6 rfl sub_self)))))⟩
      refine ⟨hC, ?_⟩
      refine ED.quick hN hF hC [29, 30, 31, 32] [2, 3, 53] 16 [(2, pt a2 0), (3, sv (some a3) a1 a0), (53, .bool (decide ((c3.length : Int) = 1)))] (bm 49 8589934591) (by kernel_rfl) (by kernel_rfl) ?_
      refine ED.keep [2, 3, 53] [(2, pt a2 0), (3, sv (some a3) a1 a0), (53, .bool (decide ((c3.length : Int) = 1)))] (by kernel_rfl) ?_
      refine ED.as' [(2, pt a2 0), (3, sv (some a3) a1 a0), (53, .bool (false))] (by simp only [encS28, sv, dec_f d6, Bool.not_true, Bool.not_false]) ?_
      refine ED.quick hN hF hC [33, 34, 35, 36, 37, 38, 39, 40, 41, 42, 43, 44, 45, 46, 47, 48] [0] 0 [(0, .bool (false))] (bm 49 562949953421311) (by kernel_rfl) (by kernel_rfl) ?_
      refine ED.done (by kernel_rfl) ?_
      refine EQ.code ?_
      refine EW.ret (by kernel_rfl) ?_
      obtain rfl := Option.some.inj H
      exact EQ.leave (.bool (false)) (by kernel_rfl) ⟨_, rfl, rfl, (hS.re [] [0, 0, 0, 0] rfl (sub_tail (sub_tail (sub_tail (sub_tail (sub_tail (sub_tail (sub_tail (sub_self)))))))))⟩
     rw [if_neg d4] at H
     have hS := hS.drew
     refine EW.dr (B := B) [Ass.box 28 a2 [ia 3, ia 0, ia 1, ia 1, ib 65536, ib 0, ib 0]] [Ro.sl kS28 (some a3) a1 a0, Ro.sl (Kd.int .u8) b6 b7 b3, Ro.sl kS28 b4 b5 a9, Ro.sl kS28 a6 a7 a5, Ro.sl kS28 (some ⟨b0, 0, none⟩) 2 a8] (by kernel_rfl) (by kernel_rfl) ?_
     have hN : Region.noSelect Cd11.r.r.r.r.r.r.l.ops = true := (by kernel_rfl)
     have hF : freeAll Cd11.r.r.r.r.r.r.l.ops = true := (by kernel_rfl)
     have hC : Core B [Ass.box 28 a2 [ia 3, ia 0, ia 1, ia 1, ib 65536, ib 0, ib 0]] [Ro.sl kS28 (some a3) a1 a0, Ro.sl (Kd.int .u8) b6 b7 b3, Ro.sl kS28 b4 b5 a9, Ro.sl kS28 a6 a7 a5, Ro.sl kS28 (some ⟨b0, 0, none⟩) 2 a8] _ := ⟨_, _, hS.re [1] [] rfl sub_self⟩
     refine ED.quick hN hF hC [0] [2, 3, 4, 21] 48 [(2, pt a2 0), (3, sv (some a3) a1 a0), (4, ia b9), (21, pt a4 0)] (bm 49 1) (by kernel_rfl) (by kernel_rfl) ?_
     refine ED.keep [2, 3, 4, 21] [(2, pt a2 0), (3, sv (some a3) a1 a0), (4, ia b9), (21, pt a4 0)] (by kernel_rfl) ?_
     refine ED.as' [(2, pt a2 0), (3, sv (some a3) a1 a0), (4, ia 0), (21, pt a4 0)] (by simp only [encS28, sv, c8]) ?_
     have hS : St B _ (Ass.box 75 a4 [sv a6 a7 a5] :: Ass.box 28 a2 [ia 3, ia 0, ia 1, ia 1, ib 65536, ib 0, ib 0] :: os) (Ro.sl kS28 a6 a7 a5 :: Ro.sl kS28 (some a3) a1 a0 :: Ro.sl (Kd.int .u8) b6 b7 b3 :: Ro.sl kS28 b4 b5 a9 :: Ro.sl kS28 (some ⟨b0, 0, none⟩) 2 a8 :: rs) := hS.re [0] [] rfl (sub_cons 3 rfl (sub_cons 0 rfl (sub_cons 1 rfl (sub_cons 2 rfl (sub_tail (sub_tail (sub_tail (sub_tail (sub_self)))))))))
     have hq := trace_Trace_All_18.calls d0 hS
     refine ED.one 1 47 (bm 49 3) (by kernel_rfl) (by kernel_rfl) (by kernel_rfl) (EO.callD 18 [pt a4 0] _ 22 (by kernel_rfl) (by kernel_rfl) (by kernel_rfl) hq ?_)
     rintro v w ⟨m8, o3, m9, o4, rfl, hS⟩
     have hC := hC.again ⟨_, _, hS.re [2] [] rfl (sub_cons 2 rfl (sub_cons 3 rfl (sub_cons 4 rfl (sub_cons 1 rfl (sub_cons 5 rfl sub_self)))))⟩
     refine ⟨hC, ?_⟩
     refine ED.quick hN hF hC [2] [2, 3, 4, 23] 46 [(2, pt a2 0), (3, sv (some a3) a1 a0), (4, ia 0), (23, ia (c0.length : Int))] (bm 49 7) (by kernel_rfl) (by kernel_rfl) ?_
     refine ED.keep [2, 3, 4, 23] [(2, pt a2 0), (3, sv (some a3) a1 a0), (4, ia 0), (23, ia (c0.length : Int))] (by kernel_rfl) ?_
     refine ED.as' [(2, pt a2 0), (3, sv (some a3) a1 a0), (4, ia 0), (23, ia 2)] (by simp only [encS28, sv, c6]) ?_
     refine ED.quick hN hF hC [3, 4, 5, 6, 7, 8, 9, 10] [2, 3, 29, 31] 38 [(2, pt a2 0), (3, sv (some a3) a1 a0), (29, .bool (true)), (31, ia (a0.length : Int))] (bm 49 2047) (by kernel_rfl) (by kernel_rfl) ?_
     refine ED.keep [2, 3, 29, 31] [(2, pt a2 0), (3, sv (some a3) a1 a0), (29, .bool (true)), (31, ia (a0.length : Int))] (by kernel_rfl) ?_
     refine ED.as' [(2, pt a2 0), (3, sv (some a3) a1 a0), (29, .bool (true)), (31, ia 2)] (by simp only [encS28, sv, c9]) ?_
     refine ED.quick hN hF hC [11, 12, 13, 14] [2, 3, 34, 35] 34 [(2, pt a2 0), (3, sv (some a3) a1 a0), (34, .bool (true)), (35, sv (some a3) a1 a0)] (bm 49 32767) (by kernel_rfl) (by kernel_rfl) ?_
     refine ED.Y hN hF hC 15 33 (bm 49 65535) (by kernel_rfl) (by kernel_rfl) rfl (fun _ _ _ hS => YO.idx 22 7 a3 a0.length a1 .i64 0 36 (by kernel_rfl) (by kernel_rfl) (by kernel_rfl) (by kernel_rfl) (by decide) c4) ?_
     refine ED.Y hN hF hC 16 32 (bm 49 131071) (by kernel_rfl) (by kernel_rfl) rfl (fun _ _ _ hS => YO.loadEl hS kS28 a3 a1 a0 (Rd.ro 0 rfl) zS28 encS28 encS28_of 0 (by decide) c4 28 7 0 7 rfl (ag (encS28 (a0.getD (0 : Int).toNat zS28))) 37 (by kernel_rfl) (by kernel_rfl) (by kernel_rfl) (by kernel_rfl)) ?_
     refine ED.Y hN hF hC 17 31 (bm 49 262143) (by kernel_rfl) (by kernel_rfl) rfl (fun _ _ _ hS => YO.loadBox hS 0 rfl 28 0 7 (ag [ia 3, ia 0, ia 1, ia 1, ib 65536, ib 0, ib 0]) 38 (by kernel_rfl) (by kernel_rfl) (by kernel_rfl) (by kernel_rfl)) ?_
     refine ED.Y hN hF hC 18 30 (bm 49 524287) (by kernel_rfl) (by kernel_rfl) rfl (fun _ _ _ hS => YO.eqAg .eql 28 (.tmp 37) (.tmp 38) #[ia ((a0.getD (0 : Int).toNat zS28).f0), ia ((a0.getD (0 : Int).toNat zS28).f1), ia ((a0.getD (0 : Int).toNat zS28).f2), ia ((a0.getD (0 : Int).toNat zS28).f3), ib ((a0.getD (0 : Int).toNat zS28).f4), ib ((a0.getD (0 : Int).toNat zS28).f5), ib ((a0.getD (0 : Int).toNat zS28).f6)] #[ia 3, ia 0, ia 1, ia 1, ib 65536, ib 0, ib 0] ((((a0.getD (0 : Int).toNat zS28).f0) == (3 : Int)) && ((((a0.getD (0 : Int).toNat zS28).f1) == (0 : Int)) && ((((a0.getD (0 : Int).toNat zS28).f2) == (1 : Int)) && ((((a0.getD (0 : Int).toNat zS28).f3) == (1 : Int)) && ((((a0.getD (0 : Int).toNat zS28).f4) == (65536 : Int)) && ((((a0.getD (0 : Int).toNat zS28).f5) == (0 : Int)) && ((((a0.getD (0 : Int).toNat zS28).f6) == (0 : Int)) && true))))))) (((((a0.getD (0 : Int).toNat zS28).f0) == (3 : Int)) && ((((a0.getD (0 : Int).toNat zS28).f1) == (0 : Int)) && ((((a0.getD (0 : Int).toNat zS28).f2) == (1 : Int)) && ((((a0.getD (0 : Int).toNat zS28).f3) == (1 : Int)) && ((((a0.getD (0 : Int).toNat zS28).f4) == (65536 : Int)) && ((((a0.getD (0 : Int).toNat zS28).f5) == (0 : Int)) && ((((a0.getD (0 : Int).toNat zS28).f6) == (0 : Int)) && true)))))))) 39 (by kernel_rfl) (by kernel_rfl) (by kernel_rfl) (by kernel_rfl) (by kernel_rfl) (.inl ⟨rfl, rfl⟩)) ?_
     refine ED.quick hN hF hC [19, 20] [2, 3, 41] 28 [(2, pt a2 0), (3, sv (some a3) a1 a0), (41, .bool (((((a0.getD (0 : Int).toNat zS28).f0) == (3 : Int)) && ((((a0.getD (0 : Int).toNat zS28).f1) == (0 : Int)) && ((((a0.getD (0 : Int).toNat zS28).f2) == (1 : Int)) && ((((a0.getD (0 : Int).toNat zS28).f3) == (1 : Int)) && ((((a0.getD (0 : Int).toNat zS28).f4) == (65536 : Int)) && ((((a0.getD (0 : Int).toNat zS28).f5) == (0 : Int)) && ((((a0.getD (0 : Int).toNat zS28).f6) == (0 : Int)) && true)))))))))] (bm 49 2097151) (by kernel_rfl) (by kernel_rfl) ?_
     refine ED.keep [2, 3, 41] [(2, pt a2 0), (3, sv (some a3) a1 a0), (41, .bool (((((a0.getD (0 : Int).toNat zS28).f0) == (3 : Int)) && ((((a0.getD (0 : Int).toNat zS28).f1) == (0 : Int)) && ((((a0.getD (0 : Int).toNat zS28).f2) == (1 : Int)) && ((((a0.getD (0 : Int).toNat zS28).f3) == (1 : Int)) && ((((a0.getD (0 : Int).toNat zS28).f4) == (65536 : Int)) && ((((a0.getD (0 : Int).toNat zS28).f5) == (0 : Int)) && ((((a0.getD (0 : Int).toNat zS28).f6) == (0 : Int)) && true)))))))))] (by kernel_rfl) ?_
     refine ED.as' [(2, pt a2 0), (3, sv (some a3) a1 a0), (41, .bool (true))] (by simp only [encS28, sv, d2, Bool.not_true, Bool.not_false]) ?_
     refine ED.Y hN hF hC 21 27 (bm 49 4194303) (by kernel_rfl) (by kernel_rfl) rfl (fun _ _ _ hS => YO.loadBox hS 0 rfl 28 0 7 (ag [ia 3, ia 0, ia 1, ia 1, ib 65536, ib 0, ib 0]) 42 (by kernel_rfl) (by kernel_rfl) (by kernel_rfl) (by kernel_rfl)) ?_
     have hq := trace_Text.calls e0 hS gB
     refine ED.one 22 26 (bm 49 8388607) (by kernel_rfl) (by kernel_rfl) (by kernel_rfl) (EO.callD 25 [ag [ia 3, ia 0, ia 1, ia 1, ib 65536, ib 0, ib 0]] _ 43 (by kernel_rfl) (by kernel_rfl) (by kernel_rfl) hq ?_)
     rintro v w ⟨rfl, hS⟩
     have hC := hC.again ⟨_, _, hS.re [2] [] rfl (sub_cons 2 rfl (sub_cons 3 rfl (sub_cons 4 rfl (sub_cons 1 rfl (sub_cons 5 rfl sub_self)))))⟩
     refine ⟨hC, ?_⟩
     refine ED.quick hN hF hC [23, 24, 25] [2, 3, 46] 23 [(2, pt a2 0), (3, sv (some a3) a1 a0), (46, .bool ((c5.toList == (⟨#[51, 32, 48, 32, 116, 97, 107, 101, 32, 49, 32, 54, 53, 53, 51, 54, 32, 48, 32, 48]⟩ : ByteArray).toList)))] (bm 49 67108863) (by kernel_rfl) (by kernel_rfl) ?_
     refine ED.keep [2, 3, 46] [(2, pt a2 0), (3, sv (some a3) a1 a0), (46, .bool ((c5.toList == (⟨#[51, 32, 48, 32, 116, 97, 107, 101, 32, 49, 32, 54, 53, 53, 51, 54, 32, 48, 32, 48]⟩ : ByteArray).toList)))] (by kernel_rfl) ?_
     refine ED.as' [(2, pt a2 0), (3, sv (some a3) a1 a0), (46, .bool (false))] (by simp only [encS28, sv, (Bool.eq_false_iff.2 d4), Bool.not_true, Bool.not_false]) ?_
     refine ED.quick hN hF hC [26, 27, 28, 29, 30, 31, 32, 33, 34, 35, 36, 37, 38, 39, 40, 41, 42, 43, 44, 45, 46, 47, 48] [0] 0 [(0, .bool (false))] (bm 49 562949953421311) (by kernel_rfl) (by kernel_rfl) ?_
     refine ED.done (by kernel_rfl) ?_
     refine EQ.code ?_
     refine EW.ret (by kernel_rfl) ?_
     obtain rfl := Option.some.inj H
     exact EQ.leave (.bool (false)) (by kernel_rfl) ⟨_, rfl, rfl, (hS.re [] [0, 0, 0] rfl (sub_tail (sub_tail (sub_tail (sub_tail (sub_tail (sub_tail (sub_self))))))))⟩
    rw [if_neg d2] at H
    have hS := hS.drew
    refine EW.dr (B := B) [Ass.box 28 a2 [ia 3, ia 0, ia 1, ia 1, ib 65536, ib 0, ib 0]] [Ro.sl kS28 (some a3) a1 a0, Ro.sl (Kd.int .u8) b6 b7 b3, Ro.sl kS28 b4 b5 a9, Ro.sl kS28 a6 a7 a5, Ro.sl kS28 (some ⟨b0, 0, none⟩) 2 a8] (by kernel_rfl) (by kernel_rfl) ?_
    have hN : Region.noSelect Cd11.r.r.r.r.r.r.l.ops = true := (by kernel_rfl)
    have hF : freeAll Cd11.r.r.r.r.r.r.l.ops = true := (by kernel_rfl)
    have hC : Core B [Ass.box 28 a2 [ia 3, ia 0, ia 1, ia 1, ib 65536, ib 0, ib 0]] [Ro.sl kS28 (some a3) a1 a0, Ro.sl (Kd.int .u8) b6 b7 b3, Ro.sl kS28 b4 b5 a9, Ro.sl kS28 a6 a7 a5, Ro.sl kS28 (some ⟨b0, 0, none⟩) 2 a8] _ := ⟨_, _, hS.re [1] [] rfl sub_self⟩
    refine ED.quick hN hF hC [0] [2, 3, 4, 21] 48 [(2, pt a2 0), (3, sv (some a3) a1 a0), (4, ia b9), (21, pt a4 0)] (bm 49 1) (by kernel_rfl) (by kernel_rfl) ?_
    refine ED.keep [2, 3, 4, 21] [(2, pt a2 0), (3, sv (some a3) a1 a0), (4, ia b9), (21, pt a4 0)] (by kernel_rfl) ?_
    refine ED.as' [(2, pt a2 0), (3, sv (some a3) a1 a0), (4, ia 0), (21, pt a4 0)] (by simp only [encS28, sv, c8]) ?_
    have hS : St B _ (Ass.box 75 a4 [sv a6 a7 a5] :: Ass.box 28 a2 [ia 3, ia 0, ia 1, ia 1, ib 65536, ib 0, ib 0] :: os) (Ro.sl kS28 a6 a7 a5 :: Ro.sl kS28 (some a3) a1 a0 :: Ro.sl (Kd.int .u8) b6 b7 b3 :: Ro.sl kS28 b4 b5 a9 :: Ro.sl kS28 (some ⟨b0, 0, none⟩) 2 a8 :: rs) := hS.re [0] [] rfl (sub_cons 3 rfl (sub_cons 0 rfl (sub_cons 1 rfl (sub_cons 2 rfl (sub_tail (sub_tail (sub_tail (sub_tail (sub_self)))))))))
    have hq := trace_Trace_All_18.calls d0 hS
    refine ED.one 1 47 (bm 49 3) (by kernel_rfl) (by kernel_rfl) (by kernel_rfl) (EO.callD 18 [pt a4 0] _ 22 (by kernel_rfl) (by kernel_rfl) (by kernel_rfl) hq ?_)
    rintro v w ⟨n0, o5, n1, o6, rfl, hS⟩
    have hC := hC.again ⟨_, _, hS.re [2] [] rfl (sub_cons 2 rfl (sub_cons 3 rfl (sub_cons 4 rfl (sub_cons 1 rfl (sub_cons 5 rfl sub_self)))))⟩
    refine ⟨hC, ?_⟩
    refine ED.quick hN hF hC [2] [2, 3, 4, 23] 46 [(2, pt a2 0), (3, sv (some a3) a1 a0), (4, ia 0), (23, ia (c0.length : Int))] (bm 49 7) (by kernel_rfl) (by kernel_rfl) ?_
    refine ED.keep [2, 3, 4, 23] [(2, pt a2 0), (3, sv (some a3) a1 a0), (4, ia 0), (23, ia (c0.length : Int))] (by kernel_rfl) ?_
    refine ED.as' [(2, pt a2 0), (3, sv (some a3) a1 a0), (4, ia 0), (23, ia 2)] (by simp only [encS28, sv, c6]) ?_
    refine ED.quick hN hF hC [3, 4, 5, 6, 7, 8, 9, 10] [2, 3, 29, 31] 38 [(2, pt a2 0), (3, sv (some a3) a1 a0), (29, .bool (true)), (31, ia (a0.length : Int))] (bm 49 2047) (by kernel_rfl) (by kernel_rfl) ?_
    refine ED.keep [2, 3, 29, 31] [(2, pt a2 0), (3, sv (some a3) a1 a0), (29, .bool (true)), (31, ia (a0.length : Int))] (by kernel_rfl) ?_
    refine ED.as' [(2, pt a2 0), (3, sv (some a3) a1 a0), (29, .bool (true)), (31, ia 2)] (by simp only [encS28, sv, c9]) ?_
    refine ED.quick hN hF hC [11, 12, 13, 14] [2, 3, 34, 35] 34 [(2, pt a2 0), (3, sv (some a3) a1 a0), (34, .bool (true)), (35, sv (some a3) a1 a0)] (bm 49 32767) (by kernel_rfl) (by kernel_rfl) ?_
    refine ED.Y hN hF hC 15 33 (bm 49 65535) (by kernel_rfl) (by kernel_rfl) rfl (fun _ _ _ hS => YO.idx 22 7 a3 a0.length a1 .i64 0 36 (by kernel_rfl) (by kernel_rfl) (by kernel_rfl) (by kernel_rfl) (by decide) c4) ?_
    refine ED.Y hN hF hC 16 32 (bm 49 131071) (by kernel_rfl) (by kernel_rfl) rfl (fun _ _ _ hS => YO.loadEl hS kS28 a3 a1 a0 (Rd.ro 0 rfl) zS28 encS28 encS28_of 0 (by decide) c4 28 7 0 7 rfl (ag (encS28 (a0.getD (0 : Int).toNat zS28))) 37 (by kernel_rfl) (by kernel_rfl) (by kernel_rfl) (by kernel_rfl)) ?_
    refine ED.Y hN hF hC 17 31 (bm 49 262143) (by kernel_rfl) (by kernel_rfl) rfl (fun _ _ _ hS => YO.loadBox hS 0 rfl 28 0 7 (ag [ia 3, ia 0, ia 1, ia 1, ib 65536, ib 0, ib 0]) 38 (by kernel_rfl) (by kernel_rfl) (by kernel_rfl) (by kernel_rfl)) ?_
    refine ED.Y hN hF hC 18 30 (bm 49 524287) (by kernel_rfl) (by kernel_rfl) rfl (fun _ _ _ hS => YO.eqAg .eql 28 (.tmp 37) (.tmp 38) #[ia ((a0.getD (0 : Int).toNat zS28).f0), ia ((a0.getD (0 : Int).toNat zS28).f1), ia ((a0.getD (0 : Int).toNat zS28).f2), ia ((a0.getD (0 : Int).toNat zS28).f3), ib ((a0.getD (0 : Int).toNat zS28).f4), ib ((a0.getD (0 : Int).toNat zS28).f5), ib ((a0.getD (0 : Int).toNat zS28).f6)] #[ia 3, ia 0, ia 1, ia 1, ib 65536, ib 0, ib 0] ((((a0.getD (0 : Int).toNat zS28).f0) == (3 : Int)) && ((((a0.getD (0 : Int).toNat zS28).f1) == (0 : Int)) && ((((a0.getD (0 : Int).toNat zS28).f2) == (1 : Int)) && ((((a0.getD (0 : Int).toNat zS28).f3) == (1 : Int)) && ((((a0.getD (0 : Int).toNat zS28).f4) == (65536 : Int)) && ((((a0.getD (0 : Int).toNat zS28).f5) == (0 : Int)) && ((((a0.getD (0 : Int).toNat zS28).f6) == (0 : Int)) && true))))))) (((((a0.getD (0 : Int).toNat zS28).f0) == (3 : Int)) && ((((a0.getD (0 : Int).toNat zS28).f1) == (0 : Int)) && ((((a0.getD (0 : Int).toNat zS28).f2) == (1 : Int)) && ((((a0.getD (0 : Int).toNat zS28).f3) == (1 : Int)) && ((((a0.getD (0 : Int).toNat zS28).f4) == (65536 : Int)) && ((((a0.getD (0 : Int).toNat zS28).f5) == (0 : Int)) && ((((a0.getD (0 : Int).toNat zS28).f6) == (0 : Int)) && true)))))))) 39 (by kernel_rfl) (by kernel_rfl) (by kernel_rfl) (by kernel_rfl) (by kernel_rfl) (.inl ⟨rfl, rfl⟩)) ?_
    refine ED.quick hN hF hC [19, 20] [2, 3, 41] 28 [(2, pt a2 0), (3, sv (some a3) a1 a0), (41, .bool (((((a0.getD (0 : Int).toNat zS28).f0) == (3 : Int)) && ((((a0.getD (0 : Int).toNat zS28).f1) == (0 : Int)) && ((((a0.getD (0 : Int).toNat zS28).f2) == (1 : Int)) && ((((a0.getD (0 : Int).toNat zS28).f3) == (1 : Int)) && ((((a0.getD (0 : Int).toNat zS28).f4) == (65536 : Int)) && ((((a0.getD (0 : Int).toNat zS28).f5) == (0 : Int)) && ((((a0.getD (0 : Int).toNat zS28).f6) == (0 : Int)) && true)))))))))] (bm 49 2097151) (by kernel_rfl) (by kernel_rfl) ?_
    refine ED.keep [2, 3, 41] [(2, pt a2 0), (3, sv (some a3) a1 a0), (41, .bool (((((a0.getD (0 : Int).toNat zS28).f0) == (3 : Int)) && ((((a0.getD (0 : Int).toNat zS28).f1) == (0 : Int)) && ((((a0.getD (0 : Int).toNat zS28).f2) == (1 : Int)) && ((((a0.getD (0 : Int).toNat zS28).f3) == (1 : Int)) && ((((a0.getD (0 : Int).toNat zS28).f4) == (65536 : Int)) && ((((a0.getD (0 : Int).toNat zS28).f5) == (0 : Int)) && ((((a0.getD (0 : Int).toNat zS28).f6) == (0 : Int)) && true)))))))))] (by kernel_rfl) ?_
    refine ED.as' [(2, pt a2 0), (3, sv (some a3) a1 a0), (41, .bool (false))] (by simp only [encS28, sv, (Bool.eq_false_iff.2 d2), Bool.not_true, Bool.not_false]) ?_
    refine ED.quick hN hF hC [21, 22, 23, 24, 25, 26, 27, 28, 29, 30, 31, 32, 33, 34, 35, 36, 37, 38, 39, 40, 41, 42, 43, 44, 45, 46, 47, 48] [0] 0 [(0, .bool (false))] (bm 49 562949953421311) (by kernel_rfl) (by kernel_rfl) ?_
    refine ED.done (by kernel_rfl) ?_
    refine EQ.code ?_
    refine EW.ret (by kernel_rfl) ?_
    obtain rfl := Option.some.inj H
    exact EQ.leave (.bool (false)) (by kernel_rfl) ⟨_, rfl, rfl, (hS.re [] [0, 0, 0] rfl (sub_tail (sub_tail (sub_tail (sub_tail (sub_tail (sub_tail (sub_self))))))))⟩
   rw [if_neg c9] at H
   have hS := hS.drew
   refine EW.dr (B := B) [Ass.box 28 a2 [ia 3, ia 0, ia 1, ia 1, ib 65536, ib 0, ib 0]] [Ro.sl kS28 b8 a1 a0, Ro.sl (Kd.int .u8) b6 b7 b3, Ro.sl kS28 b4 b5 a9, Ro.sl kS28 a6 a7 a5, Ro.sl kS28 (some ⟨b0, 0, none⟩) 2 a8] (by kernel_rfl) (by kernel_rfl) ?_
   have hN : Region.noSelect Cd11.r.r.r.r.r.r.l.ops = true := (by kernel_rfl)
   have hF : freeAll Cd11.r.r.r.r.r.r.l.ops = true := (by kernel_rfl)
   have hC : Core B [Ass.box 28 a2 [ia 3, ia 0, ia 1, ia 1, ib 65536, ib 0, ib 0]] [Ro.sl kS28 b8 a1 a0, Ro.sl (Kd.int .u8) b6 b7 b3, Ro.sl kS28 b4 b5 a9, Ro.sl kS28 a6 a7 a5, Ro.sl kS28 (some ⟨b0, 0, none⟩) 2 a8] _ := ⟨_, _, hS.re [1] [] rfl sub_self⟩
   refine ED.quick hN hF hC [0] [2, 3, 4, 21] 48 [(2, pt a2 0), (3, sv b8 a1 a0), (4, ia b9), (21, pt a4 0)] (bm 49 1) (by kernel_rfl) (by kernel_rfl) ?_
   refine ED.keep [2, 3, 4, 21] [(2, pt a2 0), (3, sv b8 a1 a0), (4, ia b9), (21, pt a4 0)] (by kernel_rfl) ?_
   refine ED.as' [(2, pt a2 0), (3, sv b8 a1 a0), (4, ia 0), (21, pt a4 0)] (by simp only [encS28, sv, c8]) ?_
   have hS : St B _ (Ass.box 75 a4 [sv a6 a7 a5] :: Ass.box 28 a2 [ia 3, ia 0, ia 1, ia 1, ib 65536, ib 0, ib 0] :: os) (Ro.sl kS28 a6 a7 a5 :: Ro.sl kS28 b8 a1 a0 :: Ro.sl (Kd.int .u8) b6 b7 b3 :: Ro.sl kS28 b4 b5 a9 :: Ro.sl kS28 (some ⟨b0, 0, none⟩) 2 a8 :: rs) := hS.re [0] [] rfl (sub_cons 3 rfl (sub_cons 0 rfl (sub_cons 1 rfl (sub_cons 2 rfl (sub_tail (sub_tail (sub_tail (sub_tail (sub_self)))))))))
   have hq := trace_Trace_All_18.calls d0 hS
   refine ED.one 1 47 (bm 49 3) (by kernel_rfl) (by kernel_rfl) (by kernel_rfl) (EO.callD 18 [pt a4 0] _ 22 (by kernel_rfl) (by kernel_rfl) (by kernel_rfl) hq ?_)
   rintro v w ⟨n2, o7, n3, o8, rfl, hS⟩
   have hC := hC.again ⟨_, _, hS.re [2] [] rfl (sub_cons 2 rfl (sub_cons 3 rfl (sub_cons 4 rfl (sub_cons 1 rfl (sub_cons 5 rfl sub_self)))))⟩
   refine ⟨hC, ?_⟩
   refine ED.quick hN hF hC [2] [2, 3, 4, 23] 46 [(2, pt a2 0), (3, sv b8 a1 a0), (4, ia 0), (23, ia (c0.length : Int))] (bm 49 7) (by kernel_rfl) (by kernel_rfl) ?_
   refine ED.keep [2, 3, 4, 23] [(2, pt a2 0), (3, sv b8 a1 a0), (4, ia 0), (23, ia (c0.length : Int))] (by kernel_rfl) ?_
   refine ED.as' [(2, pt a2 0), (3, sv b8 a1 a0), (4, ia 0), (23, ia 2)] (by simp only [encS28, sv, c6]) ?_
   refine ED.quick hN hF hC [3, 4, 5, 6, 7, 8, 9, 10, 11, 12, 13] [2, 3, 34] 35 [(2, pt a2 0), (3, sv b8 a1 a0), (34, .bool (decide ((a0.length : Int) = 2)))] (bm 49 16383) (by kernel_rfl) (by kernel_rfl) ?_
   refine ED.keep [2, 3, 34] [(2, pt a2 0), (3, sv b8 a1 a0), (34, .bool (decide ((a0.length : Int) = 2)))] (by kernel_rfl) ?_
   refine ED.as' [(2, pt a2 0), (3, sv b8 a1 a0), (34, .bool (false))] (by simp only [encS28, sv, dec_f c9, Bool.not_true, Bool.not_false]) ?_
   refine ED.quick hN hF hC [14, 15, 16, 17, 18, 19, 20, 21, 22, 23, 24, 25, 26, 27, 28, 29, 30, 31, 32, 33, 34, 35, 36, 37, 38, 39, 40, 41, 42, 43, 44, 45, 46, 47, 48] [0] 0 [(0, .bool (false))] (bm 49 562949953421311) (by kernel_rfl) (by kernel_rfl) ?_
   refine ED.done (by kernel_rfl) ?_
   refine EQ.code ?_
   refine EW.ret (by kernel_rfl) ?_
   obtain rfl := Option.some.inj H
   exact EQ.leave (.bool (false)) (by kernel_rfl) ⟨_, rfl, rfl, (hS.re [] [0, 0, 0] rfl (sub_tail (sub_tail (sub_tail (sub_tail (sub_tail (sub_tail (sub_self))))))))⟩
  rw [if_neg c8] at H
  have hS := hS.drew
  refine EW.dr (B := B) [Ass.box 28 a2 [ia 3, ia 0, ia 1, ia 1, ib 65536, ib 0, ib 0]] [Ro.sl kS28 b8 a1 a0, Ro.sl (Kd.int .u8) b6 b7 b3, Ro.sl kS28 b4 b5 a9, Ro.sl kS28 a6 a7 a5, Ro.sl kS28 (some ⟨b0, 0, none⟩) 2 a8] (by kernel_rfl) (by kernel_rfl) ?_
  have hN : Region.noSelect Cd11.r.r.r.r.r.r.l.ops = true := (by kernel_rfl)
  have hF : freeAll Cd11.r.r.r.r.r.r.l.ops = true := (by kernel_rfl)
  have hC : Core B [Ass.box 28 a2 [ia 3, ia 0, ia 1, ia 1, ib 65536, ib 0, ib 0]] [Ro.sl kS28 b8 a1 a0, Ro.sl (Kd.int .u8) b6 b7 b3, Ro.sl kS28 b4 b5 a9, Ro.sl kS28 a6 a7 a5, Ro.sl kS28 (some ⟨b0, 0, none⟩) 2 a8] _ := ⟨_, _, hS.re [1] [] rfl sub_self⟩
  refine ED.quick hN hF hC [0] [2, 3, 4, 21] 48 [(2, pt a2 0), (3, sv b8 a1 a0), (4, ia b9), (21, pt a4 0)] (bm 49 1) (by kernel_rfl) (by kernel_rfl) ?_
  have hS : St B _ (Ass.box 75 a4 [sv a6 a7 a5] :: Ass.box 28 a2 [ia 3, ia 0, ia 1, ia 1, ib 65536, ib 0, ib 0] :: os) (Ro.sl kS28 a6 a7 a5 :: Ro.sl kS28 b8 a1 a0 :: Ro.sl (Kd.int .u8) b6 b7 b3 :: Ro.sl kS28 b4 b5 a9 :: Ro.sl kS28 (some ⟨b0, 0, none⟩) 2 a8 :: rs) := hS.re [0] [] rfl (sub_cons 3 rfl (sub_cons 0 rfl (sub_cons 1 rfl (sub_cons 2 rfl (sub_tail (sub_tail (sub_tail (sub_tail (sub_self)))))))))
  have hq := trace_Trace_All_18.calls d0 hS
  refine ED.one 1 47 (bm 49 3) (by kernel_rfl) (by kernel_rfl) (by kernel_rfl) (EO.callD 18 [pt a4 0] _ 22 (by kernel_rfl) (by kernel_rfl) (by kernel_rfl) hq ?_)
  rintro v w ⟨n4, o9, n5, p0, rfl, hS⟩
  have hC := hC.again ⟨_, _, hS.re [2] [] rfl (sub_cons 2 rfl (sub_cons 3 rfl (sub_cons 4 rfl (sub_cons 1 rfl (sub_cons 5 rfl sub_self)))))⟩
  refine ⟨hC, ?_⟩
  refine ED.quick hN hF hC [2] [2, 3, 4, 23] 46 [(2, pt a2 0), (3, sv b8 a1 a0), (4, ia b9), (23, ia (c0.length : Int))] (bm 49 7) (by kernel_rfl) (by kernel_rfl) ?_
  refine ED.keep [2, 3, 4, 23] [(2, pt a2 0), (3, sv b8 a1 a0), (4, ia b9), (23, ia (c0.length : Int))] (by kernel_rfl) ?_
  refine ED.as' [(2, pt a2 0), (3, sv b8 a1 a0), (4, ia b9), (23, ia 2)] (by simp only [encS28, sv, c6]) ?_
  refine ED.quick hN hF hC [3, 4, 5, 6, 7, 8] [2, 3, 29] 40 [(2, pt a2 0), (3, sv b8 a1 a0), (29, .bool (decide (b9 = 0)))] (bm 49 511) (by kernel_rfl) (by kernel_rfl) ?_
  refine ED.keep [2, 3, 29] [(2, pt a2 0), (3, sv b8 a1 a0), (29, .bool (decide (b9 = 0)))] (by kernel_rfl) ?_
  refine ED.as' [(2, pt a2 0), (3, sv b8 a1 a0), (29, .bool (false))] (by simp only [encS28, sv, dec_f c8, Bool.not_true, Bool.not_false]) ?_
  refine ED.quick hN hF hC [9, 10, 11, 12, 13, 14, 15, 16, 17, 18, 19, 20, 21, 22, 23, 24, 25, 26, 27, 28, 29, 30, 31, 32, 33, 34, 35, 36, 37, 38, 39, 40, 41, 42, 43, 44, 45, 46, 47, 48] [0] 0 [(0, .bool (false))] (bm 49 562949953421311) (by kernel_rfl) (by kernel_rfl) ?_
  refine ED.done (by kernel_rfl) ?_
  refine EQ.code ?_
  refine EW.ret (by kernel_rfl) ?_
  obtain rfl := Option.some.inj H
  exact EQ.leave (.bool (false)) (by kernel_rfl) ⟨_, rfl, rfl, (hS.re [] [0, 0, 0] rfl (sub_tail (sub_tail (sub_tail (sub_tail (sub_tail (sub_tail (sub_self))))))))⟩
 rw [if_neg c6] at H
 have hS := hS.drew
 refine EW.dr (B := B) [Ass.box 28 a2 [ia 3, ia 0, ia 1, ia 1, ib 65536, ib 0, ib 0]] [Ro.sl kS28 b8 a1 a0, Ro.sl (Kd.int .u8) b6 b7 b3, Ro.sl kS28 b4 b5 a9, Ro.sl kS28 a6 a7 a5, Ro.sl kS28 (some ⟨b0, 0, none⟩) 2 a8] (by kernel_rfl) (by kernel_rfl) ?_
 have hN : Region.noSelect Cd11.r.r.r.r.r.r.l.ops = true := (by kernel_rfl)
 have hF : freeAll Cd11.r.r.r.r.r.r.l.ops = true := (by kernel_rfl)
 have hC : Core B [Ass.box 28 a2 [ia 3, ia 0, ia 1, ia 1, ib 65536, ib 0, ib 0]] [Ro.sl kS28 b8 a1 a0, Ro.sl (Kd.int .u8) b6 b7 b3, Ro.sl kS28 b4 b5 a9, Ro.sl kS28 a6 a7 a5, Ro.sl kS28 (some ⟨b0, 0, none⟩) 2 a8] _ := ⟨_, _, hS.re [1] [] rfl sub_self⟩
 refine ED.quick hN hF hC [0] [2, 3, 4, 21] 48 [(2, pt a2 0), (3, sv b8 a1 a0), (4, ia b9), (21, pt a4 0)] (bm 49 1) (by kernel_rfl) (by kernel_rfl) ?_
 have hS : St B _ (Ass.box 75 a4 [sv a6 a7 a5] :: Ass.box 28 a2 [ia 3, ia 0, ia 1, ia 1, ib 65536, ib 0, ib 0] :: os) (Ro.sl kS28 a6 a7 a5 :: Ro.sl kS28 b8 a1 a0 :: Ro.sl (Kd.int .u8) b6 b7 b3 :: Ro.sl kS28 b4 b5 a9 :: Ro.sl kS28 (some ⟨b0, 0, none⟩) 2 a8 :: rs) := hS.re [0] [] rfl (sub_cons 3 rfl (sub_cons 0 rfl (sub_cons 1 rfl (sub_cons 2 rfl (sub_tail (sub_tail (sub_tail (sub_tail (sub_self)))))))))
 have hq := trace_Trace_All_18.calls d0 hS
 refine ED.one 1 47 (bm 49 3) (by kernel_rfl) (by kernel_rfl) (by kernel_rfl) (EO.callD 18 [pt a4 0] _ 22 (by kernel_rfl) (by kernel_rfl) (by kernel_rfl) hq ?_)
 rintro v w ⟨n6, p1, n7, p2, rfl, hS⟩
 have hC := hC.again ⟨_, _, hS.re [2] [] rfl (sub_cons 2 rfl (sub_cons 3 rfl (sub_cons 4 rfl (sub_cons 1 rfl (sub_cons 5 rfl sub_self)))))⟩
 refine ⟨hC, ?_⟩
 refine ED.quick hN hF hC [2, 3, 4] [2, 3, 4, 25] 44 [(2, pt a2 0), (3, sv b8 a1 a0), (4, ia b9), (25, .bool (decide ((c0.length : Int) = 2)))] (bm 49 31) (by kernel_rfl) (by kernel_rfl) ?_
 refine ED.keep [2, 3, 4, 25] [(2, pt a2 0), (3, sv b8 a1 a0), (4, ia b9), (25, .bool (decide ((c0.length : Int) = 2)))] (by kernel_rfl) ?_
 refine ED.as' [(2, pt a2 0), (3, sv b8 a1 a0), (4, ia b9), (25, .bool (false))] (by simp only [encS28, sv, dec_f c6, Bool.not_true, Bool.not_false]) ?_
 refine ED.quick hN hF hC [5, 6, 7, 8, 9, 10, 11, 12, 13, 14, 15, 16, 17, 18, 19, 20, 21, 22, 23, 24, 25, 26, 27, 28, 29, 30, 31, 32, 33, 34, 35, 36, 37, 38, 39, 40, 41, 42, 43, 44, 45, 46, 47, 48] [0] 0 [(0, .bool (false))] (bm 49 562949953421311) (by kernel_rfl) (by kernel_rfl) ?_
 refine ED.done (by kernel_rfl) ?_
 refine EQ.code ?_
 refine EW.ret (by kernel_rfl) ?_
 obtain rfl := Option.some.inj H
 exact EQ.leave (.bool (false)) (by kernel_rfl) ⟨_, rfl, rfl, (hS.re [] [0, 0, 0] rfl (sub_tail (sub_tail (sub_tail (sub_tail (sub_tail (sub_tail (sub_self))))))))⟩

/-! ### confidant/confidantlaw23.some: function 12 -/
def confidantlaw23_some.l0 (K : Nat) (a0 : List S50) : Nat → (List S28) → Int → Option (List S28)
 | 0, _, _ => none
 | n + 1, a6, a1 => if a1 < (a0.length : Int) then (if 0 ≤ a1 then (lt ([(⟨IntKind.i64.wrap ((a0.getD a1.toNat zS50).f0), IntKind.i64.wrap (Int.tmod ((a0.getD a1.toNat zS50).f1) 16), IntKind.i64.wrap ((IntKind.i64.wrap (Int.tmod ((a0.getD a1.toNat zS50).f2) 11)) + 1), IntKind.i64.wrap (Int.tmod ((a0.getD a1.toNat zS50).f3) 8), IntKind.i32.wrap ((IntKind.i32.wrap ((a0.getD a1.toNat zS50).f0)) * 300), IntKind.i32.wrap ((IntKind.i32.wrap ((a0.getD a1.toNat zS50).f1)) - 128), IntKind.i32.wrap ((a0.getD a1.toNat zS50).f3)⟩ : S28)] : List S28) fun b3 => (if (a6.length + b3.length) * 48 ≤ 140737488355328 then (lt (a6 ++ b3) fun b0 => (confidantlaw23_some.l0 K a0 n b0 (IntKind.i64.wrap (a1 + 1)))) else none)) else none) else (some a6)
def confidantlaw23_some.f (K : Nat) (a0 : List S50) : Option (List S28) := confidantlaw23_some.l0 K a0 K ([] : List S28) 0
set_option maxRecDepth 100000 in
theorem confidantlaw23_some.calls {K : Nat} {a0 : List S50} {a9 : Option Addr} {a2 : Nat} {b4 : List S28} {B w : World} {os : List Ass} {rs : List Ro} (H : confidantlaw23_some.f K a0 = some b4) (hS : St B w (os) (Ro.sl kS50 a9 a2 a0 :: rs)) :
  Calls Tryd.prog 12 [sv a9 a2 a0].toArray w (fun en w' => ∃ v, en = .returned v ∧ ∃ b5 : Option Addr, ∃ b6 : Nat, v = sv b5 b6 b4 ∧ St B w' (Ass.own 28 kS28 b5 b6 b4 :: os) (Ro.sl kS50 a9 a2 a0 :: rs)) := by
 unfold confidantlaw23_some.f at H
 refine calls_of_EW (args := [sv a9 a2 a0]) (c := Cd12) 64 Tryd.func12 (by kernel_rfl) (by kernel_rfl) (by kernel_rfl) ?_
 refine EW.sq (by kernel_rfl) ?_
 refine EW.rg (by kernel_rfl) ?_
 refine EL.quick 1 [0] [(0, sv a9 a2 a0)] (by kernel_rfl) ?_
 refine EL.done (by kernel_rfl) ?_
 refine EQ.code ?_
 refine EW.sq (by kernel_rfl) ?_
 refine EW.rg (by kernel_rfl) ?_
 refine EL.quick 1 [0, 3] [(0, sv a9 a2 a0), (3, sv none 0 ([] : List S28))] (by kernel_rfl) ?_
 refine EL.done (by kernel_rfl) ?_
 refine EQ.code ?_
 refine EW.sq (by kernel_rfl) ?_
 refine EW.sq (by kernel_rfl) ?_
 refine EW.rg (by kernel_rfl) ?_
 refine EL.quick 1 [0, 3, 4] [(0, sv a9 a2 a0), (3, sv none 0 ([] : List S28)), (4, ia 0)] (by kernel_rfl) ?_
 refine EL.done (by kernel_rfl) ?_
 refine EQ.code ?_
 refine EW.bl 0 (by kernel_rfl) ?_
 have hS := St.nilO hS 28 kS28
 refine EW.lp (fun n a w => ∃ a6 : List S28, ∃ a1 : Int, ∃ a7 : Option Addr, ∃ a8 : Nat, Sat 64 [(0, sv a9 a2 a0), (3, sv a7 a8 a6), (4, ia a1)] a ∧ St B w (Ass.own 28 kS28 a7 a8 a6 :: os) (Ro.sl kS50 a9 a2 a0 :: rs) ∧ confidantlaw23_some.l0 K a0 n a6 a1 = some b4) K (by kernel_rfl) ?_ (fun n a w hI => ?_)
 ·refine EQ.keep [0, 3, 4] [(0, sv a9 a2 a0), (3, sv none 0 ([] : List S28)), (4, ia 0)] (by kernel_rfl) ?_
  exact fun a ha => ⟨([] : List S28), 0, none, 0, ha, (hS.re [0] [] rfl (sub_cons 0 rfl (sub_tail (sub_self)))), H⟩
 obtain ⟨a6, a1, a7, a8, ha, hS, H⟩ := hI
 obtain _ | n := n
 ·simp [confidantlaw23_some.l0] at H
 rw [confidantlaw23_some.l0.eq_2] at H
 refine EW.at ?_ a ha
 clear ha a
 refine EW.sq (by kernel_rfl) ?_
 refine EW.sq (by kernel_rfl) ?_
 refine EW.rg (by kernel_rfl) ?_
 refine EL.quick 4 [0, 3, 4, 8] [(0, sv a9 a2 a0), (3, sv a7 a8 a6), (4, ia a1), (8, .bool (decide (a1 < (a0.length : Int))))] (by kernel_rfl) ?_
 refine EL.done (by kernel_rfl) ?_
 refine EQ.code ?_
 refine EW.cdP (a1 < (a0.length : Int)) (by kernel_rfl) (by kernel_rfl) (fun a4 => ?_) (fun a4 => ?_)
 ·rw [if_pos a4] at H
  refine EW.skip (by kernel_rfl) ?_
  refine EQ.code ?_
  refine EW.sq (by kernel_rfl) ?_
  refine EW.bl 1 (by kernel_rfl) ?_
  obtain ⟨a5, H⟩ := ite_in H
  obtain ⟨a3, rfl⟩ := St.rd_some hS (Rd.ro 0 rfl) a5 a4
  obtain ⟨b3, b8, H⟩ := lt_out H
  obtain ⟨b9, H⟩ := ite_in H
  obtain ⟨b0, c0, H⟩ := lt_out H
  have hS := hS.drew
  refine EW.dr (B := B) [] [Ro.sl kS50 (some a3) a2 a0] (by kernel_rfl) (by kernel_rfl) ?_
  have hN : Region.noSelect Cd12.r.r.l.r.l.l.r.l.l.ops = true := (by kernel_rfl)
  have hF : freeAll Cd12.r.r.l.r.l.l.r.l.l.ops = true := (by kernel_rfl)
  have hC : Core B [] [Ro.sl kS50 (some a3) a2 a0] _ := ⟨_, _, hS⟩
  refine ED.quick hN hF hC [0, 1, 2, 7, 8, 14, 15, 22, 23, 29, 30, 36, 37, 43, 44] [0, 4, 11, 12, 13, 18, 19, 25, 26, 33, 34, 40, 41, 47, 48, 54, 55] 38 [(0, sv (some a3) a2 a0), (4, ia a1), (11, sv a7 a8 a6), (12, sv (some a3) a2 a0), (13, ia a1), (18, sv (some a3) a2 a0), (19, ia a1), (25, sv (some a3) a2 a0), (26, ia a1), (33, sv (some a3) a2 a0), (34, ia a1), (40, sv (some a3) a2 a0), (41, ia a1), (47, sv (some a3) a2 a0), (48, ia a1), (54, sv (some a3) a2 a0), (55, ia a1)] (bm 53 26596060742023) (by kernel_rfl) (by kernel_rfl) ?_
  refine ED.Y hN hF hC 3 37 (bm 53 26596060742031) (by kernel_rfl) (by kernel_rfl) rfl (fun _ _ _ hS => YO.idx 23 4 a3 a0.length a2 .i64 a1 14 (by kernel_rfl) (by kernel_rfl) (by kernel_rfl) (by kernel_rfl) a5 a4) ?_
  refine ED.Y hN hF hC 4 36 (bm 53 26596060742047) (by kernel_rfl) (by kernel_rfl) rfl (fun _ _ _ hS => YO.idxEp hS (Rd.ro 0 rfl) a1 a5 a4 50 4 0 4 1 0 .i64 15 (by kernel_rfl) (by kernel_rfl) (by kernel_rfl) (by kernel_rfl) (by kernel_rfl)) ?_
  refine ED.Y hN hF hC 5 35 (bm 53 26596060742079) (by kernel_rfl) (by kernel_rfl) rfl (fun _ _ _ hS => YO.loadEl hS kS50 a3 a2 a0 (Rd.ro 0 rfl) zS50 encS50 encS50_of a1 a5 a4 5 4 0 1 rfl (ig ((a0.getD a1.toNat zS50).f0)) 16 (by kernel_rfl) (by kernel_rfl) (by kernel_rfl) (by kernel_rfl)) ?_
  refine ED.quick hN hF hC [6] [0, 4, 11, 17, 18, 19, 25, 26, 33, 34, 40, 41, 47, 48, 54, 55] 34 [(0, sv (some a3) a2 a0), (4, ia a1), (11, sv a7 a8 a6), (17, ia (IntKind.i64.wrap ((a0.getD a1.toNat zS50).f0))), (18, sv (some a3) a2 a0), (19, ia a1), (25, sv (some a3) a2 a0), (26, ia a1), (33, sv (some a3) a2 a0), (34, ia a1), (40, sv (some a3) a2 a0), (41, ia a1), (47, sv (some a3) a2 a0), (48, ia a1), (54, sv (some a3) a2 a0), (55, ia a1)] (bm 53 26596060742143) (by kernel_rfl) (by kernel_rfl) ?_
  refine ED.Y hN hF hC 9 33 (bm 53 26596060742655) (by kernel_rfl) (by kernel_rfl) rfl (fun _ _ _ hS => YO.idx 23 4 a3 a0.length a2 .i64 a1 20 (by kernel_rfl) (by kernel_rfl) (by kernel_rfl) (by kernel_rfl) a5 a4) ?_
  refine ED.Y hN hF hC 10 32 (bm 53 26596060743679) (by kernel_rfl) (by kernel_rfl) rfl (fun _ _ _ hS => YO.idxEp hS (Rd.ro 0 rfl) a1 a5 a4 50 4 0 4 1 1 .i64 21 (by kernel_rfl) (by kernel_rfl) (by kernel_rfl) (by kernel_rfl) (by kernel_rfl)) ?_
  refine ED.Y hN hF hC 11 31 (bm 53 26596060745727) (by kernel_rfl) (by kernel_rfl) rfl (fun _ _ _ hS => YO.loadEl hS kS50 a3 a2 a0 (Rd.ro 0 rfl) zS50 encS50 encS50_of a1 a5 a4 5 4 1 1 rfl (ig ((a0.getD a1.toNat zS50).f1)) 22 (by kernel_rfl) (by kernel_rfl) (by kernel_rfl) (by kernel_rfl)) ?_
  refine ED.quick hN hF hC [12, 13] [0, 4, 11, 17, 24, 25, 26, 33, 34, 40, 41, 47, 48, 54, 55] 29 [(0, sv (some a3) a2 a0), (4, ia a1), (11, sv a7 a8 a6), (17, ia (IntKind.i64.wrap ((a0.getD a1.toNat zS50).f0))), (24, ia (IntKind.i64.wrap (Int.tmod ((a0.getD a1.toNat zS50).f1) 16))), (25, sv (some a3) a2 a0), (26, ia a1), (33, sv (some a3) a2 a0), (34, ia a1), (40, sv (some a3) a2 a0), (41, ia a1), (47, sv (some a3) a2 a0), (48, ia a1), (54, sv (some a3) a2 a0), (55, ia a1)] (bm 53 26596060758015) (by kernel_rfl) (by kernel_rfl) ?_
  refine ED.Y hN hF hC 16 28 (bm 53 26596060823551) (by kernel_rfl) (by kernel_rfl) rfl (fun _ _ _ hS => YO.idx 23 4 a3 a0.length a2 .i64 a1 27 (by kernel_rfl) (by kernel_rfl) (by kernel_rfl) (by kernel_rfl) a5 a4) ?_
  refine ED.Y hN hF hC 17 27 (bm 53 26596060954623) (by kernel_rfl) (by kernel_rfl) rfl (fun _ _ _ hS => YO.idxEp hS (Rd.ro 0 rfl) a1 a5 a4 50 4 0 4 1 2 .i64 28 (by kernel_rfl) (by kernel_rfl) (by kernel_rfl) (by kernel_rfl) (by kernel_rfl)) ?_
  refine ED.Y hN hF hC 18 26 (bm 53 26596061216767) (by kernel_rfl) (by kernel_rfl) rfl (fun _ _ _ hS => YO.loadEl hS kS50 a3 a2 a0 (Rd.ro 0 rfl) zS50 encS50 encS50_of a1 a5 a4 5 4 2 1 rfl (ig ((a0.getD a1.toNat zS50).f2)) 29 (by kernel_rfl) (by kernel_rfl) (by kernel_rfl) (by kernel_rfl)) ?_
  refine ED.quick hN hF hC [19, 20, 21] [0, 4, 11, 17, 24, 32, 33, 34, 40, 41, 47, 48, 54, 55] 23 [(0, sv (some a3) a2 a0), (4, ia a1), (11, sv a7 a8 a6), (17, ia (IntKind.i64.wrap ((a0.getD a1.toNat zS50).f0))), (24, ia (IntKind.i64.wrap (Int.tmod ((a0.getD a1.toNat zS50).f1) 16))), (32, ia (IntKind.i64.wrap ((IntKind.i64.wrap (Int.tmod ((a0.getD a1.toNat zS50).f2) 11)) + 1))), (33, sv (some a3) a2 a0), (34, ia a1), (40, sv (some a3) a2 a0), (41, ia a1), (47, sv (some a3) a2 a0), (48, ia a1), (54, sv (some a3) a2 a0), (55, ia a1)] (bm 53 26596064886783) (by kernel_rfl) (by kernel_rfl) ?_
  refine ED.Y hN hF hC 24 22 (bm 53 26596081663999) (by kernel_rfl) (by kernel_rfl) rfl (fun _ _ _ hS => YO.idx 23 4 a3 a0.length a2 .i64 a1 35 (by kernel_rfl) (by kernel_rfl) (by kernel_rfl) (by kernel_rfl) a5 a4) ?_
  refine ED.Y hN hF hC 25 21 (bm 53 26596115218431) (by kernel_rfl) (by kernel_rfl) rfl (fun _ _ _ hS => YO.idxEp hS (Rd.ro 0 rfl) a1 a5 a4 50 4 0 4 1 3 .i64 36 (by kernel_rfl) (by kernel_rfl) (by kernel_rfl) (by kernel_rfl) (by kernel_rfl)) ?_
  refine ED.Y hN hF hC 26 20 (bm 53 26596182327295) (by kernel_rfl) (by kernel_rfl) rfl (fun _ _ _ hS => YO.loadEl hS kS50 a3 a2 a0 (Rd.ro 0 rfl) zS50 encS50 encS50_of a1 a5 a4 5 4 3 1 rfl (ig ((a0.getD a1.toNat zS50).f3)) 37 (by kernel_rfl) (by kernel_rfl) (by kernel_rfl) (by kernel_rfl)) ?_
  refine ED.quick hN hF hC [27, 28] [0, 4, 11, 17, 24, 32, 39, 40, 41, 47, 48, 54, 55] 18 [(0, sv (some a3) a2 a0), (4, ia a1), (11, sv a7 a8 a6), (17, ia (IntKind.i64.wrap ((a0.getD a1.toNat zS50).f0))), (24, ia (IntKind.i64.wrap (Int.tmod ((a0.getD a1.toNat zS50).f1) 16))), (32, ia (IntKind.i64.wrap ((IntKind.i64.wrap (Int.tmod ((a0.getD a1.toNat zS50).f2) 11)) + 1))), (39, ia (IntKind.i64.wrap (Int.tmod ((a0.getD a1.toNat zS50).f3) 8))), (40, sv (some a3) a2 a0), (41, ia a1), (47, sv (some a3) a2 a0), (48, ia a1), (54, sv (some a3) a2 a0), (55, ia a1)] (bm 53 26596584980479) (by kernel_rfl) (by kernel_rfl) ?_
  refine ED.Y hN hF hC 31 17 (bm 53 26598732464127) (by kernel_rfl) (by kernel_rfl) rfl (fun _ _ _ hS => YO.idx 23 4 a3 a0.length a2 .i64 a1 42 (by kernel_rfl) (by kernel_rfl) (by kernel_rfl) (by kernel_rfl) a5 a4) ?_
  refine ED.Y hN hF hC 32 16 (bm 53 26603027431423) (by kernel_rfl) (by kernel_rfl) rfl (fun _ _ _ hS => YO.idxEp hS (Rd.ro 0 rfl) a1 a5 a4 50 4 0 4 1 0 .i64 43 (by kernel_rfl) (by kernel_rfl) (by kernel_rfl) (by kernel_rfl) (by kernel_rfl)) ?_
  refine ED.Y hN hF hC 33 15 (bm 53 26611617366015) (by kernel_rfl) (by kernel_rfl) rfl (fun _ _ _ hS => YO.loadEl hS kS50 a3 a2 a0 (Rd.ro 0 rfl) zS50 encS50 encS50_of a1 a5 a4 5 4 0 1 rfl (ig ((a0.getD a1.toNat zS50).f0)) 44 (by kernel_rfl) (by kernel_rfl) (by kernel_rfl) (by kernel_rfl)) ?_
  refine ED.quick hN hF hC [34, 35] [0, 4, 11, 17, 24, 32, 39, 46, 47, 48, 54, 55] 13 [(0, sv (some a3) a2 a0), (4, ia a1), (11, sv a7 a8 a6), (17, ia (IntKind.i64.wrap ((a0.getD a1.toNat zS50).f0))), (24, ia (IntKind.i64.wrap (Int.tmod ((a0.getD a1.toNat zS50).f1) 16))), (32, ia (IntKind.i64.wrap ((IntKind.i64.wrap (Int.tmod ((a0.getD a1.toNat zS50).f2) 11)) + 1))), (39, ia (IntKind.i64.wrap (Int.tmod ((a0.getD a1.toNat zS50).f3) 8))), (46, ib (IntKind.i32.wrap ((IntKind.i32.wrap ((a0.getD a1.toNat zS50).f0)) * 300))), (47, sv (some a3) a2 a0), (48, ia a1), (54, sv (some a3) a2 a0), (55, ia a1)] (bm 53 26663156973567) (by kernel_rfl) (by kernel_rfl) ?_
  refine ED.Y hN hF hC 38 12 (bm 53 26938034880511) (by kernel_rfl) (by kernel_rfl) rfl (fun _ _ _ hS => YO.idx 23 4 a3 a0.length a2 .i64 a1 49 (by kernel_rfl) (by kernel_rfl) (by kernel_rfl) (by kernel_rfl) a5 a4) ?_
  refine ED.Y hN hF hC 39 11 (bm 53 27487790694399) (by kernel_rfl) (by kernel_rfl) rfl (fun _ _ _ hS => YO.idxEp hS (Rd.ro 0 rfl) a1 a5 a4 50 4 0 4 1 1 .i64 50 (by kernel_rfl) (by kernel_rfl) (by kernel_rfl) (by kernel_rfl) (by kernel_rfl)) ?_
  refine ED.Y hN hF hC 40 10 (bm 53 28587302322175) (by kernel_rfl) (by kernel_rfl) rfl (fun _ _ _ hS => YO.loadEl hS kS50 a3 a2 a0 (Rd.ro 0 rfl) zS50 encS50 encS50_of a1 a5 a4 5 4 1 1 rfl (ig ((a0.getD a1.toNat zS50).f1)) 51 (by kernel_rfl) (by kernel_rfl) (by kernel_rfl) (by kernel_rfl)) ?_
  refine ED.quick hN hF hC [41, 42] [0, 4, 11, 17, 24, 32, 39, 46, 53, 54, 55] 8 [(0, sv (some a3) a2 a0), (4, ia a1), (11, sv a7 a8 a6), (17, ia (IntKind.i64.wrap ((a0.getD a1.toNat zS50).f0))), (24, ia (IntKind.i64.wrap (Int.tmod ((a0.getD a1.toNat zS50).f1) 16))), (32, ia (IntKind.i64.wrap ((IntKind.i64.wrap (Int.tmod ((a0.getD a1.toNat zS50).f2) 11)) + 1))), (39, ia (IntKind.i64.wrap (Int.tmod ((a0.getD a1.toNat zS50).f3) 8))), (46, ib (IntKind.i32.wrap ((IntKind.i32.wrap ((a0.getD a1.toNat zS50).f0)) * 300))), (53, ib (IntKind.i32.wrap ((IntKind.i32.wrap ((a0.getD a1.toNat zS50).f1)) - 128))), (54, sv (some a3) a2 a0), (55, ia a1)] (bm 53 35184372088831) (by kernel_rfl) (by kernel_rfl) ?_
  refine ED.Y hN hF hC 45 7 (bm 53 70368744177663) (by kernel_rfl) (by kernel_rfl) rfl (fun _ _ _ hS => YO.idx 23 4 a3 a0.length a2 .i64 a1 56 (by kernel_rfl) (by kernel_rfl) (by kernel_rfl) (by kernel_rfl) a5 a4) ?_
  refine ED.Y hN hF hC 46 6 (bm 53 140737488355327) (by kernel_rfl) (by kernel_rfl) rfl (fun _ _ _ hS => YO.idxEp hS (Rd.ro 0 rfl) a1 a5 a4 50 4 0 4 1 3 .i64 57 (by kernel_rfl) (by kernel_rfl) (by kernel_rfl) (by kernel_rfl) (by kernel_rfl)) ?_
  refine ED.Y hN hF hC 47 5 (bm 53 281474976710655) (by kernel_rfl) (by kernel_rfl) rfl (fun _ _ _ hS => YO.loadEl hS kS50 a3 a2 a0 (Rd.ro 0 rfl) zS50 encS50 encS50_of a1 a5 a4 5 4 3 1 rfl (ig ((a0.getD a1.toNat zS50).f3)) 58 (by kernel_rfl) (by kernel_rfl) (by kernel_rfl) (by kernel_rfl)) ?_
  refine ED.quick hN hF hC [48, 49] [0, 4, 11, 60] 3 [(0, sv (some a3) a2 a0), (4, ia a1), (11, sv a7 a8 a6), (60, ag [ia (IntKind.i64.wrap ((a0.getD a1.toNat zS50).f0)), ia (IntKind.i64.wrap (Int.tmod ((a0.getD a1.toNat zS50).f1) 16)), ia (IntKind.i64.wrap ((IntKind.i64.wrap (Int.tmod ((a0.getD a1.toNat zS50).f2) 11)) + 1)), ia (IntKind.i64.wrap (Int.tmod ((a0.getD a1.toNat zS50).f3) 8)), ib (IntKind.i32.wrap ((IntKind.i32.wrap ((a0.getD a1.toNat zS50).f0)) * 300)), ib (IntKind.i32.wrap ((IntKind.i32.wrap ((a0.getD a1.toNat zS50).f1)) - 128)), ib (IntKind.i32.wrap ((a0.getD a1.toNat zS50).f3))])] (bm 53 1125899906842623) (by kernel_rfl) (by kernel_rfl) ?_
  refine ED.one 50 2 (bm 53 2251799813685247) (by kernel_rfl) (by kernel_rfl) (by kernel_rfl) (EO.lit hS kS28 28 22 1 #[(0, ag [ia (IntKind.i64.wrap ((a0.getD a1.toNat zS50).f0)), ia (IntKind.i64.wrap (Int.tmod ((a0.getD a1.toNat zS50).f1) 16)), ia (IntKind.i64.wrap ((IntKind.i64.wrap (Int.tmod ((a0.getD a1.toNat zS50).f2) 11)) + 1)), ia (IntKind.i64.wrap (Int.tmod ((a0.getD a1.toNat zS50).f3) 8)), ib (IntKind.i32.wrap ((IntKind.i32.wrap ((a0.getD a1.toNat zS50).f0)) * 300)), ib (IntKind.i32.wrap ((IntKind.i32.wrap ((a0.getD a1.toNat zS50).f1)) - 128)), ib (IntKind.i32.wrap ((a0.getD a1.toNat zS50).f3))])] [ia (IntKind.i64.wrap ((a0.getD a1.toNat zS50).f0)), ia (IntKind.i64.wrap (Int.tmod ((a0.getD a1.toNat zS50).f1) 16)), ia (IntKind.i64.wrap ((IntKind.i64.wrap (Int.tmod ((a0.getD a1.toNat zS50).f2) 11)) + 1)), ia (IntKind.i64.wrap (Int.tmod ((a0.getD a1.toNat zS50).f3) 8)), ib (IntKind.i32.wrap ((IntKind.i32.wrap ((a0.getD a1.toNat zS50).f0)) * 300)), ib (IntKind.i32.wrap ((IntKind.i32.wrap ((a0.getD a1.toNat zS50).f1)) - 128)), ib (IntKind.i32.wrap ((a0.getD a1.toNat zS50).f3))] b3 61 (by kernel_rfl) (by kernel_rfl) (by kernel_rfl) (fun _ => (by kernel_rfl)) (by rw [b8]; rfl) (by kernel_rfl) (fun w G hr => (by rw [b8]; exact ⟨[ia (IntKind.i64.wrap ((a0.getD a1.toNat zS50).f0)), ia (IntKind.i64.wrap (Int.tmod ((a0.getD a1.toNat zS50).f1) 16)), ia (IntKind.i64.wrap ((IntKind.i64.wrap (Int.tmod ((a0.getD a1.toNat zS50).f2) 11)) + 1)), ia (IntKind.i64.wrap (Int.tmod ((a0.getD a1.toNat zS50).f3) 8)), ib (IntKind.i32.wrap ((IntKind.i32.wrap ((a0.getD a1.toNat zS50).f0)) * 300)), ib (IntKind.i32.wrap ((IntKind.i32.wrap ((a0.getD a1.toNat zS50).f1)) - 128)), ib (IntKind.i32.wrap ((a0.getD a1.toNat zS50).f3))], [], rfl, ⟨[ia (IntKind.i64.wrap ((a0.getD a1.toNat zS50).f0))], [ia (IntKind.i64.wrap (Int.tmod ((a0.getD a1.toNat zS50).f1) 16)), ia (IntKind.i64.wrap ((IntKind.i64.wrap (Int.tmod ((a0.getD a1.toNat zS50).f2) 11)) + 1)), ia (IntKind.i64.wrap (Int.tmod ((a0.getD a1.toNat zS50).f3) 8)), ib (IntKind.i32.wrap ((IntKind.i32.wrap ((a0.getD a1.toNat zS50).f0)) * 300)), ib (IntKind.i32.wrap ((IntKind.i32.wrap ((a0.getD a1.toNat zS50).f1)) - 128)), ib (IntKind.i32.wrap ((a0.getD a1.toNat zS50).f3))], rfl, rfl, ⟨[ia (IntKind.i64.wrap (Int.tmod ((a0.getD a1.toNat zS50).f1) 16))], [ia (IntKind.i64.wrap ((IntKind.i64.wrap (Int.tmod ((a0.getD a1.toNat zS50).f2) 11)) + 1)), ia (IntKind.i64.wrap (Int.tmod ((a0.getD a1.toNat zS50).f3) 8)), ib (IntKind.i32.wrap ((IntKind.i32.wrap ((a0.getD a1.toNat zS50).f0)) * 300)), ib (IntKind.i32.wrap ((IntKind.i32.wrap ((a0.getD a1.toNat zS50).f1)) - 128)), ib (IntKind.i32.wrap ((a0.getD a1.toNat zS50).f3))], rfl, rfl, ⟨[ia (IntKind.i64.wrap ((IntKind.i64.wrap (Int.tmod ((a0.getD a1.toNat zS50).f2) 11)) + 1))], [ia (IntKind.i64.wrap (Int.tmod ((a0.getD a1.toNat zS50).f3) 8)), ib (IntKind.i32.wrap ((IntKind.i32.wrap ((a0.getD a1.toNat zS50).f0)) * 300)), ib (IntKind.i32.wrap ((IntKind.i32.wrap ((a0.getD a1.toNat zS50).f1)) - 128)), ib (IntKind.i32.wrap ((a0.getD a1.toNat zS50).f3))], rfl, rfl, ⟨[ia (IntKind.i64.wrap (Int.tmod ((a0.getD a1.toNat zS50).f3) 8))], [ib (IntKind.i32.wrap ((IntKind.i32.wrap ((a0.getD a1.toNat zS50).f0)) * 300)), ib (IntKind.i32.wrap ((IntKind.i32.wrap ((a0.getD a1.toNat zS50).f1)) - 128)), ib (IntKind.i32.wrap ((a0.getD a1.toNat zS50).f3))], rfl, rfl, ⟨[ib (IntKind.i32.wrap ((IntKind.i32.wrap ((a0.getD a1.toNat zS50).f0)) * 300))], [ib (IntKind.i32.wrap ((IntKind.i32.wrap ((a0.getD a1.toNat zS50).f1)) - 128)), ib (IntKind.i32.wrap ((a0.getD a1.toNat zS50).f3))], rfl, rfl, ⟨[ib (IntKind.i32.wrap ((IntKind.i32.wrap ((a0.getD a1.toNat zS50).f1)) - 128))], [ib (IntKind.i32.wrap ((a0.getD a1.toNat zS50).f3))], rfl, rfl, ⟨[ib (IntKind.i32.wrap ((a0.getD a1.toNat zS50).f3))], [], rfl, rfl, rfl⟩⟩⟩⟩⟩⟩⟩, rfl⟩)) ?_)
  intro b7 w hS
  have hC := hC.again ⟨_, _, hS⟩
  refine ⟨hC, ?_⟩
  refine ED.one 51 1 (bm 53 4503599627370495) (by kernel_rfl) (by kernel_rfl) (by kernel_rfl) (EO.append hS 22 22 28 48 1 kS28 a7 a8 a6 rfl (some ⟨b7, 0, none⟩) 1 b3 (Rd.own 0 28 rfl) b0 c0 (fun b1 b2 => Ass.own 28 kS28 (some ⟨b7, 0, none⟩) 1 b3 :: Ass.own 28 kS28 b1 b2 b0 :: os) 62 (by kernel_rfl) (by kernel_rfl) (by kernel_rfl) (by kernel_rfl) b9 (fun _ _ => rfl) ?_)
  intro b1 b2 w hS
  have hC := hC.again ⟨_, _, hS⟩
  refine ⟨hC, ?_⟩
  refine ED.quick hN hF hC [52] [0, 3, 4] 0 [(0, sv (some a3) a2 a0), (3, sv b1 b2 b0), (4, ia a1)] (bm 53 9007199254740991) (by kernel_rfl) (by kernel_rfl) ?_
  refine ED.done (by kernel_rfl) ?_
  refine EQ.pop ?_
  refine EQ.code ?_
  refine EW.rg (by kernel_rfl) ?_
  refine EL.quick 3 [0, 3, 4] [(0, sv (some a3) a2 a0), (3, sv b1 b2 b0), (4, ia (IntKind.i64.wrap (a1 + 1)))] (by kernel_rfl) ?_
  refine EL.done (by kernel_rfl) ?_
  refine EQ.to ?_
  refine EQ.keep [0, 3, 4] [(0, sv (some a3) a2 a0), (3, sv b1 b2 b0), (4, ia (IntKind.i64.wrap (a1 + 1)))] (by kernel_rfl) ?_
  exact fun a ha => ⟨n, Nat.lt_succ_self n, b0, IntKind.i64.wrap (a1 + 1), b1, b2, ha, (hS.re [1] [1] rfl (sub_cons 0 rfl (sub_tail (sub_self)))), H⟩
 rw [if_neg a4] at H
 refine EW.exit (id := 0) (by kernel_rfl) ?_
 refine EQ.exitCode ?_
 refine EQ.exitTo ?_
 refine EQ.exitHere ?_
 refine EQ.code ?_
 refine EW.sq (by kernel_rfl) ?_
 refine EW.rg (by kernel_rfl) ?_
 refine EL.quick 2 [2] [(2, sv a7 a8 a6)] (by kernel_rfl) ?_
 refine EL.done (by kernel_rfl) ?_
 refine EQ.code ?_
 refine EW.ret (by kernel_rfl) ?_
 obtain rfl := Option.some.inj H
 exact EQ.leave (sv a7 a8 a6) (by kernel_rfl) ⟨_, rfl, a7, a8, rfl, (hS.re [0] [] rfl (sub_self))⟩

/-! ### confidant/confidantref1.Put: function 44 -/
def confidantref1_Put.l1 (K : Nat) (b9 : (List Int) → Option (List Int)) : Nat → (List Int) → Int → Option (List Int)
 | 0, _, _ => none
 | n + 1, a9, a7 => if a7 > 0 then (lt ([bO .u8 (IntKind.u8.wrap (bA .u64 a7 127)) 128] : List Int) fun c6 => (if (c6.length + a9.length) * 1 ≤ 140737488355328 then (lt (c6 ++ a9) fun b6 => (confidantref1_Put.l1 K b9 n b6 (sR .u64 a7 7))) else none)) else (b9 a9)
def confidantref1_Put.l0 (K : Nat) (a0 : List Int) : Nat → (List Int) → Int → Option (List Int)
 | 0, _, _ => none
 | n + 1, a3, a1 => if a1 < (a0.length : Int) then (lt (fun (b3 : List Int) (d1 : List Int) => (confidantref1_Put.l0 K a0 n b3 (IntKind.i64.wrap (a1 + 1)))) fun d3 => (if 0 ≤ a1 then (lt ([IntKind.u8.wrap (bA .u64 (a0.getD a1.toNat 0) 127)] : List Int) fun b5 => (lt (fun (b0 : List Int) => (if (a3.length + b0.length) * 1 ≤ 140737488355328 then (lt (a3 ++ b0) fun c0 => (d3 c0 b0)) else none)) fun b9 => (confidantref1_Put.l1 K b9 K b5 (sR .u64 (a0.getD a1.toNat 0) 7)))) else none)) else (some a3)
def confidantref1_Put.f (K : Nat) (a0 : List Int) : Option (List Int) := confidantref1_Put.l0 K a0 K ([] : List Int) 0
set_option maxRecDepth 100000 in
theorem confidantref1_Put.calls {K : Nat} {a0 : List Int} {a8 : Option Addr} {a2 : Nat} {c1 : List Int} {B w : World} {os : List Ass} {rs : List Ro} (H : confidantref1_Put.f K a0 = some c1) (hS : St B w (os) (Ro.sl (Kd.int .u64) a8 a2 a0 :: rs)) :
  Calls Tryd.prog 44 [sv a8 a2 a0].toArray w (fun en w' => ∃ v, en = .returned v ∧ ∃ d4 : Option Addr, ∃ d6 : Nat, v = sv d4 d6 c1 ∧ St B w' (Ass.own 5 (Kd.int .u8) d4 d6 c1 :: os) (Ro.sl (Kd.int .u64) a8 a2 a0 :: rs)) := by
 unfold confidantref1_Put.f at H
 refine calls_of_EW (args := [sv a8 a2 a0]) (c := Cd44) 40 Tryd.func44 (by kernel_rfl) (by kernel_rfl) (by kernel_rfl) ?_
 refine EW.sq (by kernel_rfl) ?_
 refine EW.rg (by kernel_rfl) ?_
 refine EL.quick 1 [0] [(0, sv a8 a2 a0)] (by kernel_rfl) ?_
 refine EL.done (by kernel_rfl) ?_
 refine EQ.code ?_
 refine EW.sq (by kernel_rfl) ?_
 refine EW.rg (by kernel_rfl) ?_
 refine EL.quick 1 [0, 3] [(0, sv a8 a2 a0), (3, sv none 0 ([] : List Int))] (by kernel_rfl) ?_
 refine EL.done (by kernel_rfl) ?_
 refine EQ.code ?_
 refine EW.sq (by kernel_rfl) ?_
 refine EW.sq (by kernel_rfl) ?_
 refine EW.rg (by kernel_rfl) ?_
 refine EL.quick 1 [0, 3, 4] [(0, sv a8 a2 a0), (3, sv none 0 ([] : List Int)), (4, ia 0)] (by kernel_rfl) ?_
 refine EL.done (by kernel_rfl) ?_
 refine EQ.code ?_
 refine EW.bl 0 (by kernel_rfl) ?_
 have hS := St.nilO hS 5 (Kd.int .u8)
 refine EW.lp (fun n a w => ∃ a3 : List Int, ∃ a1 : Int, ∃ a4 : Option Addr, ∃ a5 : Nat, Sat 40 [(0, sv a8 a2 a0), (3, sv a4 a5 a3), (4, ia a1)] a ∧ St B w (Ass.own 5 (Kd.int .u8) a4 a5 a3 :: os) (Ro.sl (Kd.int .u64) a8 a2 a0 :: rs) ∧ confidantref1_Put.l0 K a0 n a3 a1 = some c1) K (by kernel_rfl) ?_ (fun n a w hI => ?_)
 ·refine EQ.keep [0, 3, 4] [(0, sv a8 a2 a0), (3, sv none 0 ([] : List Int)), (4, ia 0)] (by kernel_rfl) ?_
  exact fun a ha => ⟨([] : List Int), 0, none, 0, ha, (hS.re [0] [] rfl (sub_cons 0 rfl (sub_tail (sub_self)))), H⟩
 obtain ⟨a3, a1, a4, a5, ha, hS, H⟩ := hI
 obtain _ | n := n
 ·simp [confidantref1_Put.l0] at H
 rw [confidantref1_Put.l0.eq_2] at H
 refine EW.at ?_ a ha
 clear ha a
 refine EW.sq (by kernel_rfl) ?_
 refine EW.sq (by kernel_rfl) ?_
 refine EW.rg (by kernel_rfl) ?_
 refine EL.quick 4 [0, 3, 4, 10] [(0, sv a8 a2 a0), (3, sv a4 a5 a3), (4, ia a1), (10, .bool (decide (a1 < (a0.length : Int))))] (by kernel_rfl) ?_
 refine EL.done (by kernel_rfl) ?_
 refine EQ.code ?_
 refine EW.cdP (a1 < (a0.length : Int)) (by kernel_rfl) (by kernel_rfl) (fun b4 => ?_) (fun b4 => ?_)
 ·rw [if_pos b4] at H
  refine EW.skip (by kernel_rfl) ?_
  refine EQ.code ?_
  obtain ⟨d3, e3, H⟩ := lt_out H
  refine EW.ct (fun a w => ∃ b3 : List Int, ∃ d1 : List Int, ∃ c2 : Option Addr, ∃ c4 : Nat, ∃ d5 : Option Addr, ∃ d7 : Nat, Sat 40 [(0, sv a8 a2 a0), (3, sv c2 c4 b3), (4, ia a1)] a ∧ St B w (Ass.own 5 (Kd.int .u8) c2 c4 b3 :: Ass.own 5 (Kd.int .u8) d5 d7 d1 :: os) (Ro.sl (Kd.int .u64) a8 a2 a0 :: rs) ∧ d3 b3 d1 = some c1) (by kernel_rfl) ?_ (fun a w hI => ?_)
  ·refine EW.bl 1 (by kernel_rfl) ?_
   refine EW.sq (by kernel_rfl) ?_
   refine EW.rg (by kernel_rfl) ?_
   refine EL.quick 2 [0, 3, 4, 13, 14] [(0, sv a8 a2 a0), (3, sv a4 a5 a3), (4, ia a1), (13, sv a8 a2 a0), (14, ia a1)] (by kernel_rfl) ?_
   obtain ⟨d0, H⟩ := ite_in H
   obtain ⟨a6, rfl⟩ := St.rd_some hS (Rd.ro 0 rfl) d0 b4
   refine EL.of (EO.Y (YO.idx 115 1 a6 a0.length a2 .i64 a1 15 (by kernel_rfl) (by kernel_rfl) (by kernel_rfl) (by kernel_rfl) d0 b4) ?_)
   refine EL.of (EO.Y (YO.loadEl hS (Kd.int .u64) a6 a2 a0 (Rd.ro 0 rfl) 0 (encI .u64) encI_of a1 d0 b4 77 1 0 1 rfl (ic (a0.getD a1.toNat 0)) 16 (by kernel_rfl) (by kernel_rfl) (by kernel_rfl) (by kernel_rfl)) ?_)
   refine EL.quick 2 [0, 3, 4, 18] [(0, sv (some a6) a2 a0), (3, sv a4 a5 a3), (4, ia a1), (18, ig (IntKind.u8.wrap (bA .u64 (a0.getD a1.toNat 0) 127)))] (by kernel_rfl) ?_
   obtain ⟨b5, d9, H⟩ := lt_out H
   refine EL.of (EO.lit hS (Kd.int .u8) 5 33 1 #[(0, ig (IntKind.u8.wrap (bA .u64 (a0.getD a1.toNat 0) 127)))] [ig (IntKind.u8.wrap (bA .u64 (a0.getD a1.toNat 0) 127))] b5 19 (by kernel_rfl) (by kernel_rfl) (by kernel_rfl) (fun _ => (by kernel_rfl)) (by rw [d9]; rfl) (by kernel_rfl) (fun w G hr => (by rw [d9]; exact ⟨[ig (IntKind.u8.wrap (bA .u64 (a0.getD a1.toNat 0) 127))], [], rfl, rfl, rfl⟩)) ?_)
   intro c9 w hS
   refine EL.quick 1 [0, 3, 4, 5] [(0, sv (some a6) a2 a0), (3, sv a4 a5 a3), (4, ia a1), (5, sv (some ⟨c9, 0, none⟩) 1 b5)] (by kernel_rfl) ?_
   refine EL.done (by kernel_rfl) ?_
   refine EQ.code ?_
   obtain ⟨b9, e4, H⟩ := lt_out H
   refine EW.ct (fun a w => ∃ b0 : List Int, ∃ b7 : Option Addr, ∃ b8 : Nat, Sat 40 [(0, sv (some a6) a2 a0), (3, sv a4 a5 a3), (4, ia a1), (5, sv b7 b8 b0)] a ∧ St B w (Ass.own 5 (Kd.int .u8) a4 a5 a3 :: Ass.own 5 (Kd.int .u8) b7 b8 b0 :: os) (Ro.sl (Kd.int .u64) (some a6) a2 a0 :: rs) ∧ b9 b0 = some c1) (by kernel_rfl) ?_ (fun a w hI => ?_)
   ·refine EW.sq (by kernel_rfl) ?_
    refine EW.rg (by kernel_rfl) ?_
    refine EL.quick 2 [0, 3, 4, 5, 20, 21] [(0, sv (some a6) a2 a0), (3, sv a4 a5 a3), (4, ia a1), (5, sv (some ⟨c9, 0, none⟩) 1 b5), (20, sv (some a6) a2 a0), (21, ia a1)] (by kernel_rfl) ?_
    refine EL.of (EO.Y (YO.idx 115 1 a6 a0.length a2 .i64 a1 22 (by kernel_rfl) (by kernel_rfl) (by kernel_rfl) (by kernel_rfl) d0 b4) ?_)
    refine EL.of (EO.Y (YO.loadEl hS (Kd.int .u64) a6 a2 a0 (Rd.ro 0 rfl) 0 (encI .u64) encI_of a1 d0 b4 77 1 0 1 rfl (ic (a0.getD a1.toNat 0)) 23 (by kernel_rfl) (by kernel_rfl) (by kernel_rfl) (by kernel_rfl)) ?_)
    refine EL.quick 2 [0, 3, 4, 5, 6] [(0, sv (some a6) a2 a0), (3, sv a4 a5 a3), (4, ia a1), (5, sv (some ⟨c9, 0, none⟩) 1 b5), (6, ic (sR .u64 (a0.getD a1.toNat 0) 7))] (by kernel_rfl) ?_
    refine EL.done (by kernel_rfl) ?_
    refine EQ.code ?_
    refine EW.bl 2 (by kernel_rfl) ?_
    refine EW.lp (fun n a w => ∃ a9 : List Int, ∃ a7 : Int, ∃ b1 : Option Addr, ∃ b2 : Nat, Sat 40 [(0, sv (some a6) a2 a0), (3, sv a4 a5 a3), (4, ia a1), (5, sv b1 b2 a9), (6, ic a7)] a ∧ St B w (Ass.own 5 (Kd.int .u8) a4 a5 a3 :: Ass.own 5 (Kd.int .u8) b1 b2 a9 :: os) (Ro.sl (Kd.int .u64) (some a6) a2 a0 :: rs) ∧ confidantref1_Put.l1 K b9 n a9 a7 = some c1) K (by kernel_rfl) ?_ (fun n a w hI => ?_)
    ·refine EQ.keep [0, 3, 4, 5, 6] [(0, sv (some a6) a2 a0), (3, sv a4 a5 a3), (4, ia a1), (5, sv (some ⟨c9, 0, none⟩) 1 b5), (6, ic (sR .u64 (a0.getD a1.toNat 0) 7))] (by kernel_rfl) ?_
     exact fun a ha => ⟨b5, sR .u64 (a0.getD a1.toNat 0) 7, (some ⟨c9, 0, none⟩), 1, ha, (hS.re [0, 1] [] rfl (sub_cons 0 rfl (sub_tail (sub_self)))), H⟩
    obtain ⟨a9, a7, b1, b2, ha, hS, H⟩ := hI
    obtain _ | n := n
    ·simp [confidantref1_Put.l1] at H
    rw [confidantref1_Put.l1.eq_2] at H
    refine EW.at ?_ a ha
    clear ha a
    refine EW.sq (by kernel_rfl) ?_
    refine EW.sq (by kernel_rfl) ?_
    refine EW.rg (by kernel_rfl) ?_
    refine EL.quick 2 [0, 3, 4, 5, 6, 26] [(0, sv (some a6) a2 a0), (3, sv a4 a5 a3), (4, ia a1), (5, sv b1 b2 a9), (6, ic a7), (26, .bool (decide (a7 > 0)))] (by kernel_rfl) ?_
    refine EL.done (by kernel_rfl) ?_
    refine EQ.code ?_
    refine EW.cdP (a7 > 0) (by kernel_rfl) (by kernel_rfl) (fun d2 => ?_) (fun d2 => ?_)
    ·rw [if_pos d2] at H
     refine EW.skip (by kernel_rfl) ?_
     refine EQ.code ?_
     refine EW.sq (by kernel_rfl) ?_
     refine EW.bl 3 (by kernel_rfl) ?_
     refine EW.rg (by kernel_rfl) ?_
     refine EL.quick 4 [0, 3, 4, 5, 6, 32] [(0, sv (some a6) a2 a0), (3, sv a4 a5 a3), (4, ia a1), (5, sv b1 b2 a9), (6, ic a7), (32, ig (bO .u8 (IntKind.u8.wrap (bA .u64 a7 127)) 128))] (by kernel_rfl) ?_
     obtain ⟨c6, e0, H⟩ := lt_out H
     refine EL.of (EO.lit hS (Kd.int .u8) 5 33 1 #[(0, ig (bO .u8 (IntKind.u8.wrap (bA .u64 a7 127)) 128))] [ig (bO .u8 (IntKind.u8.wrap (bA .u64 a7 127)) 128)] c6 33 (by kernel_rfl) (by kernel_rfl) (by kernel_rfl) (fun _ => (by kernel_rfl)) (by rw [e0]; rfl) (by kernel_rfl) (fun w G hr => (by rw [e0]; exact ⟨[ig (bO .u8 (IntKind.u8.wrap (bA .u64 a7 127)) 128)], [], rfl, rfl, rfl⟩)) ?_)
     intro d8 w hS
     refine EL.quick 1 [0, 3, 4, 6, 33, 34] [(0, sv (some a6) a2 a0), (3, sv a4 a5 a3), (4, ia a1), (6, ic a7), (33, sv (some ⟨d8, 0, none⟩) 1 c6), (34, sv b1 b2 a9)] (by kernel_rfl) ?_
     obtain ⟨e1, H⟩ := ite_in H
     obtain ⟨b6, e5, H⟩ := lt_out H
     refine EL.of (EO.append hS 33 33 5 1 0 (Kd.int .u8) (some ⟨d8, 0, none⟩) 1 c6 rfl b1 b2 a9 (Rd.own 2 5 rfl) b6 e5 (fun c3 c5 => Ass.own 5 (Kd.int .u8) c3 c5 b6 :: Ass.own 5 (Kd.int .u8) a4 a5 a3 :: Ass.own 5 (Kd.int .u8) b1 b2 a9 :: os) 35 (by kernel_rfl) (by kernel_rfl) (by kernel_rfl) (by kernel_rfl) e1 (fun _ _ => rfl) ?_)
     intro c3 c5 w hS
     refine EL.quick 1 [0, 3, 4, 5, 6] [(0, sv (some a6) a2 a0), (3, sv a4 a5 a3), (4, ia a1), (5, sv c3 c5 b6), (6, ic a7)] (by kernel_rfl) ?_
     refine EL.done (by kernel_rfl) ?_
     refine EQ.pop ?_
     refine EQ.code ?_
     refine EW.rg (by kernel_rfl) ?_
     refine EL.quick 3 [0, 3, 4, 5, 6] [(0, sv (some a6) a2 a0), (3, sv a4 a5 a3), (4, ia a1), (5, sv c3 c5 b6), (6, ic (sR .u64 a7 7))] (by kernel_rfl) ?_
     refine EL.done (by kernel_rfl) ?_
     refine EQ.to ?_
     refine EQ.keep [0, 3, 4, 5, 6] [(0, sv (some a6) a2 a0), (3, sv a4 a5 a3), (4, ia a1), (5, sv c3 c5 b6), (6, ic (sR .u64 a7 7))] (by kernel_rfl) ?_
     exact fun a ha => ⟨n, Nat.lt_succ_self n, b6, sR .u64 a7 7, c3, c5, ha, (hS.re [0, 1] [2] rfl (sub_cons 0 rfl (sub_tail (sub_self)))), H⟩
    rw [if_neg d2] at H
    refine EW.exit (id := 2) (by kernel_rfl) ?_
    refine EQ.exitCode ?_
    refine EQ.exitTo ?_
    refine EQ.exitHere ?_
    refine EQ.to ?_
    refine EQ.keep [0, 3, 4, 5] [(0, sv (some a6) a2 a0), (3, sv a4 a5 a3), (4, ia a1), (5, sv b1 b2 a9)] (by kernel_rfl) ?_
    exact fun a ha => ⟨a9, b1, b2, ha, (hS.re [1, 1] [] rfl (sub_cons 0 rfl (sub_tail (sub_self)))), H⟩
   obtain ⟨b0, b7, b8, ha, hS, H⟩ := hI
   rw [e4] at H
   (try dsimp only at H)
   refine EW.at ?_ a ha
   clear ha a
   refine EW.rg (by kernel_rfl) ?_
   refine EL.quick 2 [0, 4, 36, 37] [(0, sv (some a6) a2 a0), (4, ia a1), (36, sv a4 a5 a3), (37, sv b7 b8 b0)] (by kernel_rfl) ?_
   obtain ⟨e2, H⟩ := ite_in H
   obtain ⟨c0, e6, H⟩ := lt_out H
   refine EL.of (EO.append hS 33 33 5 1 0 (Kd.int .u8) a4 a5 a3 rfl b7 b8 b0 (Rd.own 1 5 rfl) c0 e6 (fun c7 c8 => Ass.own 5 (Kd.int .u8) c7 c8 c0 :: Ass.own 5 (Kd.int .u8) b7 b8 b0 :: os) 38 (by kernel_rfl) (by kernel_rfl) (by kernel_rfl) (by kernel_rfl) e2 (fun _ _ => rfl) ?_)
   intro c7 c8 w hS
   refine EL.quick 1 [0, 3, 4] [(0, sv (some a6) a2 a0), (3, sv c7 c8 c0), (4, ia a1)] (by kernel_rfl) ?_
   refine EL.done (by kernel_rfl) ?_
   refine EQ.pop ?_
   refine EQ.to ?_
   refine EQ.keep [0, 3, 4] [(0, sv (some a6) a2 a0), (3, sv c7 c8 c0), (4, ia a1)] (by kernel_rfl) ?_
   exact fun a ha => ⟨c0, b0, c7, c8, b7, b8, ha, (hS.re [1, 1] [] rfl (sub_cons 0 rfl (sub_tail (sub_self)))), H⟩
  obtain ⟨b3, d1, c2, c4, d5, d7, ha, hS, H⟩ := hI
  rw [e3] at H
  (try dsimp only at H)
  refine EW.at ?_ a ha
  clear ha a
  refine EW.rg (by kernel_rfl) ?_
  refine EL.quick 3 [0, 3, 4] [(0, sv a8 a2 a0), (3, sv c2 c4 b3), (4, ia (IntKind.i64.wrap (a1 + 1)))] (by kernel_rfl) ?_
  refine EL.done (by kernel_rfl) ?_
  refine EQ.to ?_
  refine EQ.keep [0, 3, 4] [(0, sv a8 a2 a0), (3, sv c2 c4 b3), (4, ia (IntKind.i64.wrap (a1 + 1)))] (by kernel_rfl) ?_
  exact fun a ha => ⟨n, Nat.lt_succ_self n, b3, IntKind.i64.wrap (a1 + 1), c2, c4, ha, (hS.re [0] [1] rfl (sub_cons 0 rfl (sub_tail (sub_self)))), H⟩
 rw [if_neg b4] at H
 refine EW.exit (id := 0) (by kernel_rfl) ?_
 refine EQ.exitCode ?_
 refine EQ.exitTo ?_
 refine EQ.exitHere ?_
 refine EQ.code ?_
 refine EW.sq (by kernel_rfl) ?_
 refine EW.rg (by kernel_rfl) ?_
 refine EL.quick 2 [2] [(2, sv a4 a5 a3)] (by kernel_rfl) ?_
 refine EL.done (by kernel_rfl) ?_
 refine EQ.code ?_
 refine EW.ret (by kernel_rfl) ?_
 obtain rfl := Option.some.inj H
 exact EQ.leave (sv a4 a5 a3) (by kernel_rfl) ⟨_, rfl, a4, a5, rfl, (hS.re [0] [] rfl (sub_self))⟩

/-! ### confidant/confidantref21.EventRight: function 24 -/
def confidantref21_EventRight.f (K : Nat) (a0 : S28) : Option Bool := if a0.f0 ≥ 0 then (if a0.f0 ≤ 65536 then (if a0.f1 ≥ 0 then (if a0.f1 < 16 then (if a0.f2 ≥ 1 then (if a0.f2 ≤ 11 then (if a0.f3 ≥ 0 then (if a0.f3 < 8 then (some (decide (a0.f4 ≥ 0))) else (some false)) else (some false)) else (some false)) else (some false)) else (some false)) else (some false)) else (some false)) else (some false)
set_option maxRecDepth 100000 in
theorem confidantref21_EventRight.calls {K : Nat} {a0 : S28} {b0 : Bool} {B w : World} {os : List Ass} {rs : List Ro} (H : confidantref21_EventRight.f K a0 = some b0) (hS : St B w (os) (rs)) :
  Calls Tryd.prog 24 [ag (encS28 a0)].toArray w (fun en w' => ∃ v, en = .returned v ∧ v = .bool (b0) ∧ St B w' (os) (rs)) := by
 unfold confidantref21_EventRight.f at H
 refine calls_of_EW (args := [ag (encS28 a0)]) (c := Cd24) 46 Tryd.func24 (by kernel_rfl) (by kernel_rfl) (by kernel_rfl) ?_
 refine EW.sq (by kernel_rfl) ?_
 refine EW.rg (by kernel_rfl) ?_
 refine EL.of (EO.box hS 28 (ag (encS28 a0)) (encS28 a0) 1 (by kernel_rfl) (by kernel_rfl) (by kernel_rfl) (by first | rfl | kernel_rfl) ?_)
 intro a1 w hS
 refine EL.quick 1 [1] [(1, pt a1 0)] (by kernel_rfl) ?_
 refine EL.done (by kernel_rfl) ?_
 refine EQ.code ?_
 refine EW.sq (by kernel_rfl) ?_
 refine EW.rg (by kernel_rfl) ?_
 refine EL.quick 1 [1, 3] [(1, pt a1 0), (3, pt a1 0)] (by kernel_rfl) ?_
 refine EL.of (EO.Y (YO.loadBox hS 0 rfl 3 0 1 (ia a0.f0) 4 (by kernel_rfl) (by kernel_rfl) (by kernel_rfl) (by kernel_rfl)) ?_)
 refine EL.quick 2 [1, 6] [(1, pt a1 0), (6, .bool (decide (a0.f0 ≥ 0)))] (by kernel_rfl) ?_
 by_cases a2 : a0.f0 ≥ 0
 ·rw [if_pos a2] at H
  refine EL.keep [1, 6] [(1, pt a1 0), (6, .bool (decide (a0.f0 ≥ 0)))] (by kernel_rfl) ?_
  refine EL.as' [(1, pt a1 0), (6, .bool (true))] (by simp only [encS28, dec_t a2, Bool.not_true, Bool.not_false]) ?_
  refine EL.quick 1 [1, 6, 7] [(1, pt a1 0), (6, .bool (true)), (7, pt a1 0)] (by kernel_rfl) ?_
  refine EL.of (EO.Y (YO.loadBox hS 0 rfl 3 0 1 (ia a0.f0) 8 (by kernel_rfl) (by kernel_rfl) (by kernel_rfl) (by kernel_rfl)) ?_)
  refine EL.quick 3 [1, 11] [(1, pt a1 0), (11, .bool (decide (a0.f0 ≤ 65536)))] (by kernel_rfl) ?_
  by_cases a3 : a0.f0 ≤ 65536
  ·rw [if_pos a3] at H
   refine EL.keep [1, 11] [(1, pt a1 0), (11, .bool (decide (a0.f0 ≤ 65536)))] (by kernel_rfl) ?_
   refine EL.as' [(1, pt a1 0), (11, .bool (true))] (by simp only [encS28, dec_t a3, Bool.not_true, Bool.not_false]) ?_
   refine EL.quick 1 [1, 11, 12] [(1, pt a1 0), (11, .bool (true)), (12, pt a1 1)] (by kernel_rfl) ?_
   refine EL.of (EO.Y (YO.loadBox hS 0 rfl 3 1 1 (ia a0.f1) 13 (by kernel_rfl) (by kernel_rfl) (by kernel_rfl) (by kernel_rfl)) ?_)
   refine EL.quick 3 [1, 16] [(1, pt a1 0), (16, .bool (decide (a0.f1 ≥ 0)))] (by kernel_rfl) ?_
   by_cases a4 : a0.f1 ≥ 0
   ·rw [if_pos a4] at H
    refine EL.keep [1, 16] [(1, pt a1 0), (16, .bool (decide (a0.f1 ≥ 0)))] (by kernel_rfl) ?_
    refine EL.as' [(1, pt a1 0), (16, .bool (true))] (by simp only [encS28, dec_t a4, Bool.not_true, Bool.not_false]) ?_
    refine EL.quick 1 [1, 16, 17] [(1, pt a1 0), (16, .bool (true)), (17, pt a1 1)] (by kernel_rfl) ?_
    refine EL.of (EO.Y (YO.loadBox hS 0 rfl 3 1 1 (ia a0.f1) 18 (by kernel_rfl) (by kernel_rfl) (by kernel_rfl) (by kernel_rfl)) ?_)
    refine EL.quick 3 [1, 21] [(1, pt a1 0), (21, .bool (decide (a0.f1 < 16)))] (by kernel_rfl) ?_
    by_cases a5 : a0.f1 < 16
    ·rw [if_pos a5] at H
     refine EL.keep [1, 21] [(1, pt a1 0), (21, .bool (decide (a0.f1 < 16)))] (by kernel_rfl) ?_
     refine EL.as' [(1, pt a1 0), (21, .bool (true))] (by simp only [encS28, dec_t a5, Bool.not_true, Bool.not_false]) ?_
     refine EL.quick 1 [1, 21, 22] [(1, pt a1 0), (21, .bool (true)), (22, pt a1 2)] (by kernel_rfl) ?_
     refine EL.of (EO.Y (YO.loadBox hS 0 rfl 3 2 1 (ia a0.f2) 23 (by kernel_rfl) (by kernel_rfl) (by kernel_rfl) (by kernel_rfl)) ?_)
     refine EL.quick 3 [1, 26] [(1, pt a1 0), (26, .bool (decide (a0.f2 ≥ 1)))] (by kernel_rfl) ?_
     by_cases a6 : a0.f2 ≥ 1
     ·rw [if_pos a6] at H
      refine EL.keep [1, 26] [(1, pt a1 0), (26, .bool (decide (a0.f2 ≥ 1)))] (by kernel_rfl) ?_
      refine EL.as' [(1, pt a1 0), (26, .bool (true))] (by simp only [encS28, dec_t a6, Bool.not_true, Bool.not_false]) ?_
      refine EL.quick 1 [1, 26, 27] [(1, pt a1 0), (26, .bool (true)), (27, pt a1 2)] (by kernel_rfl) ?_
      refine EL.of (EO.Y (YO.loadBox hS 0 rfl 3 2 1 (ia a0.f2) 28 (by kernel_rfl) (by kernel_rfl) (by kernel_rfl) (by kernel_rfl)) ?_)
      refine EL.quick 3 [1, 31] [(1, pt a1 0), (31, .bool (decide (a0.f2 ≤ 11)))] (by kernel_rfl) ?_
      by_cases a7 : a0.f2 ≤ 11
      ·rw [if_pos a7] at H
       refine EL.keep [1, 31] [(1, pt a1 0), (31, .bool (decide (a0.f2 ≤ 11)))] (by kernel_rfl) ?_
       refine EL.as' [(1, pt a1 0), (31, .bool (true))] (by simp only [encS28, dec_t a7, Bool.not_true, Bool.not_false]) ?_
       refine EL.quick 1 [1, 31, 32] [(1, pt a1 0), (31, .bool (true)), (32, pt a1 3)] (by kernel_rfl) ?_
       refine EL.of (EO.Y (YO.loadBox hS 0 rfl 3 3 1 (ia a0.f3) 33 (by kernel_rfl) (by kernel_rfl) (by kernel_rfl) (by kernel_rfl)) ?_)
       refine EL.quick 3 [1, 36] [(1, pt a1 0), (36, .bool (decide (a0.f3 ≥ 0)))] (by kernel_rfl) ?_
       by_cases a8 : a0.f3 ≥ 0
       ·rw [if_pos a8] at H
        refine EL.keep [1, 36] [(1, pt a1 0), (36, .bool (decide (a0.f3 ≥ 0)))] (by kernel_rfl) ?_
        refine EL.as' [(1, pt a1 0), (36, .bool (true))] (by simp only [encS28, dec_t a8, Bool.not_true, Bool.not_false]) ?_
        refine EL.quick 1 [1, 36, 37] [(1, pt a1 0), (36, .bool (true)), (37, pt a1 3)] (by kernel_rfl) ?_
        refine EL.of (EO.Y (YO.loadBox hS 0 rfl 3 3 1 (ia a0.f3) 38 (by kernel_rfl) (by kernel_rfl) (by kernel_rfl) (by kernel_rfl)) ?_)
        refine EL.quick 3 [1, 41] [(1, pt a1 0), (41, .bool (decide (a0.f3 < 8)))] (by kernel_rfl) ?_
        by_cases a9 : a0.f3 < 8
        ·rw [if_pos a9] at H
         refine EL.keep [1, 41] [(1, pt a1 0), (41, .bool (decide (a0.f3 < 8)))] (by kernel_rfl) ?_
         refine EL.as' [(1, pt a1 0), (41, .bool (true))] (by simp only [encS28, dec_t a9, Bool.not_true, Bool.not_false]) ?_
         refine EL.quick 1 [41, 42] [(41, .bool (true)), (42, pt a1 4)] (by kernel_rfl) ?_
         refine EL.of (EO.Y (YO.loadBox hS 0 rfl 21 4 1 (ib a0.f4) 43 (by kernel_rfl) (by kernel_rfl) (by kernel_rfl) (by kernel_rfl)) ?_)
         refine EL.quick 3 [2] [(2, .bool (decide (a0.f4 ≥ 0)))] (by kernel_rfl) ?_
         refine EL.done (by kernel_rfl) ?_
         refine EQ.code ?_
         refine EW.ret (by kernel_rfl) ?_
         obtain rfl := Option.some.inj H
         exact EQ.leave (.bool (decide (a0.f4 ≥ 0))) (by kernel_rfl) ⟨_, rfl, rfl, (hS.re [] [0] rfl (sub_self))⟩
        rw [if_neg a9] at H
        refine EL.keep [1, 41] [(1, pt a1 0), (41, .bool (decide (a0.f3 < 8)))] (by kernel_rfl) ?_
        refine EL.as' [(1, pt a1 0), (41, .bool (false))] (by simp only [encS28, dec_f a9, Bool.not_true, Bool.not_false]) ?_
        refine EL.quick 5 [2] [(2, .bool (false))] (by kernel_rfl) ?_
        refine EL.done (by kernel_rfl) ?_
        refine EQ.code ?_
        refine EW.ret (by kernel_rfl) ?_
        obtain rfl := Option.some.inj H
        exact EQ.leave (.bool (false)) (by kernel_rfl) ⟨_, rfl, rfl, (hS.re [] [0] rfl (sub_self))⟩
       rw [if_neg a8] at H
       refine EL.keep [1, 36] [(1, pt a1 0), (36, .bool (decide (a0.f3 ≥ 0)))] (by kernel_rfl) ?_
       refine EL.as' [(1, pt a1 0), (36, .bool (false))] (by simp only [encS28, dec_f a8, Bool.not_true, Bool.not_false]) ?_
       refine EL.quick 10 [2] [(2, .bool (false))] (by kernel_rfl) ?_
       refine EL.done (by kernel_rfl) ?_
       refine EQ.code ?_
       refine EW.ret (by kernel_rfl) ?_
       obtain rfl := Option.some.inj H
       exact EQ.leave (.bool (false)) (by kernel_rfl) ⟨_, rfl, rfl, (hS.re [] [0] rfl (sub_self))⟩
      rw [if_neg a7] at H
      refine EL.keep [1, 31] [(1, pt a1 0), (31, .bool (decide (a0.f2 ≤ 11)))] (by kernel_rfl) ?_
      refine EL.as' [(1, pt a1 0), (31, .bool (false))] (by simp only [encS28, dec_f a7, Bool.not_true, Bool.not_false]) ?_
      refine EL.quick 15 [2] [(2, .bool (false))] (by kernel_rfl) ?_
      refine EL.done (by kernel_rfl) ?_
      refine EQ.code ?_
      refine EW.ret (by kernel_rfl) ?_
      obtain rfl := Option.some.inj H
      exact EQ.leave (.bool (false)) (by kernel_rfl) ⟨_, rfl, rfl, (hS.re [] [0] rfl (sub_self))⟩
     rw [if_neg a6] at H
     refine EL.keep [1, 26] [(1, pt a1 0), (26, .bool (decide (a0.f2 ≥ 1)))] (by kernel_rfl) ?_
     refine EL.as' [(1, pt a1 0), (26, .bool (false))] (by simp only [encS28, dec_f a6, Bool.not_true, Bool.not_false]) ?_
     refine EL.quick 20 [2] [(2, .bool (false))] (by kernel_rfl) ?_
     refine EL.done (by kernel_rfl) ?_
     refine EQ.code ?_
     refine EW.ret (by kernel_rfl) ?_
     obtain rfl := Option.some.inj H
     exact EQ.leave (.bool (false)) (by kernel_rfl) ⟨_, rfl, rfl, (hS.re [] [0] rfl (sub_self))⟩
    rw [if_neg a5] at H
    refine EL.keep [1, 21] [(1, pt a1 0), (21, .bool (decide (a0.f1 < 16)))] (by kernel_rfl) ?_
    refine EL.as' [(1, pt a1 0), (21, .bool (false))] (by simp only [encS28, dec_f a5, Bool.not_true, Bool.not_false]) ?_
    refine EL.quick 25 [2] [(2, .bool (false))] (by kernel_rfl) ?_
    refine EL.done (by kernel_rfl) ?_
    refine EQ.code ?_
    refine EW.ret (by kernel_rfl) ?_
    obtain rfl := Option.some.inj H
    exact EQ.leave (.bool (false)) (by kernel_rfl) ⟨_, rfl, rfl, (hS.re [] [0] rfl (sub_self))⟩
   rw [if_neg a4] at H
   refine EL.keep [1, 16] [(1, pt a1 0), (16, .bool (decide (a0.f1 ≥ 0)))] (by kernel_rfl) ?_
   refine EL.as' [(1, pt a1 0), (16, .bool (false))] (by simp only [encS28, dec_f a4, Bool.not_true, Bool.not_false]) ?_
   refine EL.quick 30 [2] [(2, .bool (false))] (by kernel_rfl) ?_
   refine EL.done (by kernel_rfl) ?_
   refine EQ.code ?_
   refine EW.ret (by kernel_rfl) ?_
   obtain rfl := Option.some.inj H
   exact EQ.leave (.bool (false)) (by kernel_rfl) ⟨_, rfl, rfl, (hS.re [] [0] rfl (sub_self))⟩
  rw [if_neg a3] at H
  refine EL.keep [1, 11] [(1, pt a1 0), (11, .bool (decide (a0.f0 ≤ 65536)))] (by kernel_rfl) ?_
  refine EL.as' [(1, pt a1 0), (11, .bool (false))] (by simp only [encS28, dec_f a3, Bool.not_true, Bool.not_false]) ?_
  refine EL.quick 35 [2] [(2, .bool (false))] (by kernel_rfl) ?_
  refine EL.done (by kernel_rfl) ?_
  refine EQ.code ?_
  refine EW.ret (by kernel_rfl) ?_
  obtain rfl := Option.some.inj H
  exact EQ.leave (.bool (false)) (by kernel_rfl) ⟨_, rfl, rfl, (hS.re [] [0] rfl (sub_self))⟩
 rw [if_neg a2] at H
 refine EL.keep [1, 6] [(1, pt a1 0), (6, .bool (decide (a0.f0 ≥ 0)))] (by kernel_rfl) ?_
 refine EL.as' [(1, pt a1 0), (6, .bool (false))] (by simp only [encS28, dec_f a2, Bool.not_true, Bool.not_false]) ?_
 refine EL.quick 40 [2] [(2, .bool (false))] (by kernel_rfl) ?_
 refine EL.done (by kernel_rfl) ?_
 refine EQ.code ?_
 refine EW.ret (by kernel_rfl) ?_
 obtain rfl := Option.some.inj H
 exact EQ.leave (.bool (false)) (by kernel_rfl) ⟨_, rfl, rfl, (hS.re [] [0] rfl (sub_self))⟩

/-! ### confidant/confidantref1.Int: function 45 -/
def confidantref1_Int.f (K : Nat) (a0 : Int) : Option Int := some (IntKind.u64.wrap (IntKind.u32.wrap a0))
set_option maxRecDepth 100000 in
theorem confidantref1_Int.calls {K : Nat} {a0 : Int} {a1 : Int} {B w : World} {os : List Ass} {rs : List Ro} (H : confidantref1_Int.f K a0 = some a1) (hS : St B w (os) (rs)) :
  Calls Tryd.prog 45 [ib a0].toArray w (fun en w' => ∃ v, en = .returned v ∧ v = ic a1 ∧ St B w' (os) (rs)) := by
 unfold confidantref1_Int.f at H
 refine calls_of_EW (args := [ib a0]) (c := Cd45) 6 Tryd.func45 (by kernel_rfl) (by kernel_rfl) (by kernel_rfl) ?_
 refine EW.sq (by kernel_rfl) ?_
 refine EW.rg (by kernel_rfl) ?_
 refine EL.quick 1 [0] [(0, ib a0)] (by kernel_rfl) ?_
 refine EL.done (by kernel_rfl) ?_
 refine EQ.code ?_
 refine EW.sq (by kernel_rfl) ?_
 refine EW.rg (by kernel_rfl) ?_
 refine EL.quick 4 [2] [(2, ic (IntKind.u64.wrap (IntKind.u32.wrap a0)))] (by kernel_rfl) ?_
 refine EL.done (by kernel_rfl) ?_
 refine EQ.code ?_
 refine EW.ret (by kernel_rfl) ?_
 obtain rfl := Option.some.inj H
 exact EQ.leave (ic (IntKind.u64.wrap (IntKind.u32.wrap a0))) (by kernel_rfl) ⟨_, rfl, rfl, (hS.re [] [] rfl (sub_self))⟩

/-! ### confidant/confidantref21.EventsPut: function 16 -/
def confidantref21_EventsPut.l0 (K : Nat) (a0 : List S28) : Nat → (List Int) → Int → Option (List Int)
 | 0, _, _ => none
 | n + 1, a4, a1 => if a1 < (a0.length : Int) then (if 0 ≤ a1 then (b1 (confidantref21_EventRight.f K (a0.getD a1.toNat zS28)) fun (c0 : Bool) => (if c0 = true then (b1 (confidantref1_Int.f K ((a0.getD a1.toNat zS28).f5)) fun (b0 : Int) => (b1 (confidantref1_Int.f K ((a0.getD a1.toNat zS28).f6)) fun (a9 : Int) => (lt ([IntKind.u64.wrap ((a0.getD a1.toNat zS28).f0), IntKind.u64.wrap ((a0.getD a1.toNat zS28).f1), IntKind.u64.wrap ((a0.getD a1.toNat zS28).f2), IntKind.u64.wrap ((a0.getD a1.toNat zS28).f3), IntKind.u64.wrap ((a0.getD a1.toNat zS28).f4), b0, a9] : List Int) fun b9 => (b1 (confidantref1_Put.f K b9) fun (c1 : List Int) => (if (a4.length + c1.length) * 1 ≤ 140737488355328 then (lt (a4 ++ c1) fun b3 => (confidantref21_EventsPut.l0 K a0 n b3 (IntKind.i64.wrap (a1 + 1)))) else none))))) else (some ([] : List Int)))) else none) else (some a4)
def confidantref21_EventsPut.f (K : Nat) (a0 : List S28) : Option (List Int) := lt ([IntKind.u64.wrap (a0.length : Int)] : List Int) fun b2 => (b1 (confidantref1_Put.f K b2) fun (b8 : List Int) => (confidantref21_EventsPut.l0 K a0 K b8 0))
set_option maxRecDepth 100000 in
theorem confidantref21_EventsPut.calls {K : Nat} {a0 : List S28} {a7 : Option Addr} {a3 : Nat} {c4 : List Int} {B w : World} {os : List Ass} {rs : List Ro} (H : confidantref21_EventsPut.f K a0 = some c4) (hS : St B w (os) (Ro.sl kS28 a7 a3 a0 :: rs)) :
  Calls Tryd.prog 16 [sv a7 a3 a0].toArray w (fun en w' => ∃ v, en = .returned v ∧ ∃ c7 : Option Addr, ∃ c9 : Nat, v = sv c7 c9 c4 ∧ St B w' (Ass.own 5 (Kd.int .u8) c7 c9 c4 :: os) (Ro.sl kS28 a7 a3 a0 :: rs)) := by
 unfold confidantref21_EventsPut.f at H
 refine calls_of_EW (args := [sv a7 a3 a0]) (c := Cd16) 50 Tryd.func16 (by kernel_rfl) (by kernel_rfl) (by kernel_rfl) ?_
 refine EW.sq (by kernel_rfl) ?_
 refine EW.rg (by kernel_rfl) ?_
 refine EL.quick 1 [0] [(0, sv a7 a3 a0)] (by kernel_rfl) ?_
 refine EL.done (by kernel_rfl) ?_
 refine EQ.code ?_
 refine EW.sq (by kernel_rfl) ?_
 refine EW.rg (by kernel_rfl) ?_
 refine EL.quick 3 [0, 8] [(0, sv a7 a3 a0), (8, ic (IntKind.u64.wrap (a0.length : Int)))] (by kernel_rfl) ?_
 obtain ⟨b2, d2, H⟩ := lt_out H
 refine EL.of (EO.lit hS (Kd.int .u64) 77 115 1 #[(0, ic (IntKind.u64.wrap (a0.length : Int)))] [ic (IntKind.u64.wrap (a0.length : Int))] b2 9 (by kernel_rfl) (by kernel_rfl) (by kernel_rfl) (fun _ => (by kernel_rfl)) (by rw [d2]; rfl) (by kernel_rfl) (fun w G hr => (by rw [d2]; exact ⟨[ic (IntKind.u64.wrap (a0.length : Int))], [], rfl, rfl, rfl⟩)) ?_)
 intro b6 w hS
 have hS := St.fr hS 0 rfl
 have hS : St B _ (os) (Ro.sl (Kd.int .u64) (some ⟨b6, 0, none⟩) 1 b2 :: Ro.sl kS28 a7 a3 a0 :: rs) := hS.re [] [] rfl (sub_cons 0 rfl (sub_tail (sub_self)))
 obtain ⟨b8, d5, H⟩ := b1_out H
 have hq := confidantref1_Put.calls d5 hS
 refine EL.of (EO.callD 44 [sv (some ⟨b6, 0, none⟩) 1 b2] _ 10 (by kernel_rfl) (by kernel_rfl) (by kernel_rfl) hq ?_)
 rintro v w ⟨c2, c3, rfl, hS⟩
 refine EL.quick 1 [0, 3] [(0, sv a7 a3 a0), (3, sv c2 c3 b8)] (by kernel_rfl) ?_
 refine EL.done (by kernel_rfl) ?_
 refine EQ.code ?_
 refine EW.sq (by kernel_rfl) ?_
 refine EW.sq (by kernel_rfl) ?_
 refine EW.rg (by kernel_rfl) ?_
 refine EL.quick 1 [0, 3, 4] [(0, sv a7 a3 a0), (3, sv c2 c3 b8), (4, ia 0)] (by kernel_rfl) ?_
 refine EL.done (by kernel_rfl) ?_
 refine EQ.code ?_
 refine EW.bl 0 (by kernel_rfl) ?_
 refine EW.lp (fun n a w => ∃ a4 : List Int, ∃ a1 : Int, ∃ a5 : Option Addr, ∃ a6 : Nat, Sat 50 [(0, sv a7 a3 a0), (3, sv a5 a6 a4), (4, ia a1)] a ∧ St B w (Ass.own 5 (Kd.int .u8) a5 a6 a4 :: os) (Ro.sl (Kd.int .u64) (some ⟨b6, 0, none⟩) 1 b2 :: Ro.sl kS28 a7 a3 a0 :: rs) ∧ confidantref21_EventsPut.l0 K a0 n a4 a1 = some c4) K (by kernel_rfl) ?_ (fun n a w hI => ?_)
 ·refine EQ.keep [0, 3, 4] [(0, sv a7 a3 a0), (3, sv c2 c3 b8), (4, ia 0)] (by kernel_rfl) ?_
  exact fun a ha => ⟨b8, 0, c2, c3, ha, (hS.re [0] [] rfl (sub_cons 0 rfl (sub_cons 1 rfl (sub_tail (sub_tail (sub_self)))))), H⟩
 obtain ⟨a4, a1, a5, a6, ha, hS, H⟩ := hI
 obtain _ | n := n
 ·simp [confidantref21_EventsPut.l0] at H
 rw [confidantref21_EventsPut.l0.eq_2] at H
 refine EW.at ?_ a ha
 clear ha a
 refine EW.sq (by kernel_rfl) ?_
 refine EW.sq (by kernel_rfl) ?_
 refine EW.rg (by kernel_rfl) ?_
 refine EL.quick 4 [0, 3, 4, 14] [(0, sv a7 a3 a0), (3, sv a5 a6 a4), (4, ia a1), (14, .bool (decide (a1 < (a0.length : Int))))] (by kernel_rfl) ?_
 refine EL.done (by kernel_rfl) ?_
 refine EQ.code ?_
 refine EW.cdP (a1 < (a0.length : Int)) (by kernel_rfl) (by kernel_rfl) (fun b7 => ?_) (fun b7 => ?_)
 ·rw [if_pos b7] at H
  refine EW.skip (by kernel_rfl) ?_
  refine EQ.code ?_
  refine EW.sq (by kernel_rfl) ?_
  refine EW.bl 1 (by kernel_rfl) ?_
  refine EW.sq (by kernel_rfl) ?_
  refine EW.rg (by kernel_rfl) ?_
  refine EL.quick 2 [0, 3, 4, 17, 18] [(0, sv a7 a3 a0), (3, sv a5 a6 a4), (4, ia a1), (17, sv a7 a3 a0), (18, ia a1)] (by kernel_rfl) ?_
  obtain ⟨c5, H⟩ := ite_in H
  obtain ⟨a8, rfl⟩ := St.rd_some hS (Rd.ro 1 rfl) c5 b7
  refine EL.of (EO.Y (YO.idx 22 7 a8 a0.length a3 .i64 a1 19 (by kernel_rfl) (by kernel_rfl) (by kernel_rfl) (by kernel_rfl) c5 b7) ?_)
  refine EL.of (EO.Y (YO.loadEl hS kS28 a8 a3 a0 (Rd.ro 1 rfl) zS28 encS28 encS28_of a1 c5 b7 28 7 0 7 rfl (ag (encS28 (a0.getD a1.toNat zS28))) 20 (by kernel_rfl) (by kernel_rfl) (by kernel_rfl) (by kernel_rfl)) ?_)
  refine EL.of (EO.alloc hS 28 (ag (encS28 zS28)) (encS28 zS28) 5 (by kernel_rfl) (by kernel_rfl) (by kernel_rfl) (by kernel_rfl) (by first | rfl | kernel_rfl) ?_)
  intro a2 w hS
  refine EL.of (EO.storeBox (os' := Ass.box 28 a2 (encS28 (a0.getD a1.toNat zS28)) :: Ass.own 5 (Kd.int .u8) a5 a6 a4 :: os) hS 0 rfl 28 0 (ag (encS28 (a0.getD a1.toNat zS28))) (encS28 (a0.getD a1.toNat zS28)) (by kernel_rfl) (by kernel_rfl) (by kernel_rfl) (by kernel_rfl) (by kernel_rfl) (by kernel_rfl) rfl rfl ?_)
  intro w hS
  refine EL.done (by kernel_rfl) ?_
  refine EQ.code ?_
  refine EW.sq (by kernel_rfl) ?_
  refine EW.sq (by kernel_rfl) ?_
  refine EW.rg (by kernel_rfl) ?_
  refine EL.of (EO.Y (YO.loadBox hS 0 rfl 28 0 7 (ag (encS28 (a0.getD a1.toNat zS28))) 21 (by kernel_rfl) (by kernel_rfl) (by kernel_rfl) (by kernel_rfl)) ?_)
  obtain ⟨c0, d6, H⟩ := b1_out H
  have hq := confidantref21_EventRight.calls d6 hS
  refine EL.of (EO.callD 24 [ag (encS28 (a0.getD a1.toNat zS28))] _ 22 (by kernel_rfl) (by kernel_rfl) (by kernel_rfl) hq ?_)
  rintro v w ⟨rfl, hS⟩
  refine EL.quick 1 [0, 3, 4, 5, 23] [(0, sv (some a8) a3 a0), (3, sv a5 a6 a4), (4, ia a1), (5, pt a2 0), (23, .bool (!(c0)))] (by kernel_rfl) ?_
  refine EL.done (by kernel_rfl) ?_
  refine EQ.code ?_
  refine EW.cdQ (b := !(c0)) (c0 = true) (false) (by kernel_rfl) (by kernel_rfl) ⟨fun h => (by rw [h] <;> rfl), fun h => (by rw [Bool.eq_false_iff.2 h] <;> rfl)⟩ (fun c6 => ?_) (fun c6 => ?_)
  ·rw [if_pos c6] at H
   refine EW.skip (by kernel_rfl) ?_
   refine EQ.code ?_
   obtain ⟨b0, d7, H⟩ := b1_out H
   obtain ⟨a9, d8, H⟩ := b1_out H
   obtain ⟨b9, d3, H⟩ := lt_out H
   obtain ⟨c1, d9, H⟩ := b1_out H
   obtain ⟨d4, H⟩ := ite_in H
   obtain ⟨b3, e0, H⟩ := lt_out H
   have hS := hS.drew
   refine EW.dr (B := B) [Ass.box 28 a2 (encS28 (a0.getD a1.toNat zS28))] [Ro.sl (Kd.int .u64) (some ⟨b6, 0, none⟩) 1 b2, Ro.sl kS28 (some a8) a3 a0] (by kernel_rfl) (by kernel_rfl) ?_
   have hN : Region.noSelect Cd16.r.r.l.r.l.l.r.l.l.r.r.ops = true := (by kernel_rfl)
   have hF : freeAll Cd16.r.r.l.r.l.l.r.l.l.r.r.ops = true := (by kernel_rfl)
   have hC : Core B [Ass.box 28 a2 (encS28 (a0.getD a1.toNat zS28))] [Ro.sl (Kd.int .u64) (some ⟨b6, 0, none⟩) 1 b2, Ro.sl kS28 (some a8) a3 a0] _ := ⟨_, _, hS⟩
   refine ED.quick hN hF hC [0, 1, 4, 7, 10, 13, 16, 19] [0, 4, 24, 25, 28, 31, 34, 37, 40, 43] 18 [(0, sv (some a8) a3 a0), (4, ia a1), (24, sv a5 a6 a4), (25, pt a2 0), (28, pt a2 1), (31, pt a2 2), (34, pt a2 3), (37, pt a2 4), (40, pt a2 5), (43, pt a2 6)] (bm 26 599187) (by kernel_rfl) (by kernel_rfl) ?_
   refine ED.Y hN hF hC 2 17 (bm 26 599191) (by kernel_rfl) (by kernel_rfl) rfl (fun _ _ _ hS => YO.loadBox hS 0 rfl 3 0 1 (ia ((a0.getD a1.toNat zS28).f0)) 26 (by kernel_rfl) (by kernel_rfl) (by kernel_rfl) (by kernel_rfl)) ?_
   refine ED.quick hN hF hC [3] [0, 4, 24, 27, 28, 31, 34, 37, 40, 43] 16 [(0, sv (some a8) a3 a0), (4, ia a1), (24, sv a5 a6 a4), (27, ic (IntKind.u64.wrap ((a0.getD a1.toNat zS28).f0))), (28, pt a2 1), (31, pt a2 2), (34, pt a2 3), (37, pt a2 4), (40, pt a2 5), (43, pt a2 6)] (bm 26 599199) (by kernel_rfl) (by kernel_rfl) ?_
   refine ED.Y hN hF hC 5 15 (bm 26 599231) (by kernel_rfl) (by kernel_rfl) rfl (fun _ _ _ hS => YO.loadBox hS 0 rfl 3 1 1 (ia ((a0.getD a1.toNat zS28).f1)) 29 (by kernel_rfl) (by kernel_rfl) (by kernel_rfl) (by kernel_rfl)) ?_
   refine ED.quick hN hF hC [6] [0, 4, 24, 27, 30, 31, 34, 37, 40, 43] 14 [(0, sv (some a8) a3 a0), (4, ia a1), (24, sv a5 a6 a4), (27, ic (IntKind.u64.wrap ((a0.getD a1.toNat zS28).f0))), (30, ic (IntKind.u64.wrap ((a0.getD a1.toNat zS28).f1))), (31, pt a2 2), (34, pt a2 3), (37, pt a2 4), (40, pt a2 5), (43, pt a2 6)] (bm 26 599295) (by kernel_rfl) (by kernel_rfl) ?_
   refine ED.Y hN hF hC 8 13 (bm 26 599551) (by kernel_rfl) (by kernel_rfl) rfl (fun _ _ _ hS => YO.loadBox hS 0 rfl 3 2 1 (ia ((a0.getD a1.toNat zS28).f2)) 32 (by kernel_rfl) (by kernel_rfl) (by kernel_rfl) (by kernel_rfl)) ?_
   refine ED.quick hN hF hC [9] [0, 4, 24, 27, 30, 33, 34, 37, 40, 43] 12 [(0, sv (some a8) a3 a0), (4, ia a1), (24, sv a5 a6 a4), (27, ic (IntKind.u64.wrap ((a0.getD a1.toNat zS28).f0))), (30, ic (IntKind.u64.wrap ((a0.getD a1.toNat zS28).f1))), (33, ic (IntKind.u64.wrap ((a0.getD a1.toNat zS28).f2))), (34, pt a2 3), (37, pt a2 4), (40, pt a2 5), (43, pt a2 6)] (bm 26 600063) (by kernel_rfl) (by kernel_rfl) ?_
   refine ED.Y hN hF hC 11 11 (bm 26 602111) (by kernel_rfl) (by kernel_rfl) rfl (fun _ _ _ hS => YO.loadBox hS 0 rfl 3 3 1 (ia ((a0.getD a1.toNat zS28).f3)) 35 (by kernel_rfl) (by kernel_rfl) (by kernel_rfl) (by kernel_rfl)) ?_
   refine ED.quick hN hF hC [12] [0, 4, 24, 27, 30, 33, 36, 37, 40, 43] 10 [(0, sv (some a8) a3 a0), (4, ia a1), (24, sv a5 a6 a4), (27, ic (IntKind.u64.wrap ((a0.getD a1.toNat zS28).f0))), (30, ic (IntKind.u64.wrap ((a0.getD a1.toNat zS28).f1))), (33, ic (IntKind.u64.wrap ((a0.getD a1.toNat zS28).f2))), (36, ic (IntKind.u64.wrap ((a0.getD a1.toNat zS28).f3))), (37, pt a2 4), (40, pt a2 5), (43, pt a2 6)] (bm 26 606207) (by kernel_rfl) (by kernel_rfl) ?_
   refine ED.Y hN hF hC 14 9 (bm 26 622591) (by kernel_rfl) (by kernel_rfl) rfl (fun _ _ _ hS => YO.loadBox hS 0 rfl 21 4 1 (ib ((a0.getD a1.toNat zS28).f4)) 38 (by kernel_rfl) (by kernel_rfl) (by kernel_rfl) (by kernel_rfl)) ?_
   refine ED.quick hN hF hC [15] [0, 4, 24, 27, 30, 33, 36, 39, 40, 43] 8 [(0, sv (some a8) a3 a0), (4, ia a1), (24, sv a5 a6 a4), (27, ic (IntKind.u64.wrap ((a0.getD a1.toNat zS28).f0))), (30, ic (IntKind.u64.wrap ((a0.getD a1.toNat zS28).f1))), (33, ic (IntKind.u64.wrap ((a0.getD a1.toNat zS28).f2))), (36, ic (IntKind.u64.wrap ((a0.getD a1.toNat zS28).f3))), (39, ic (IntKind.u64.wrap ((a0.getD a1.toNat zS28).f4))), (40, pt a2 5), (43, pt a2 6)] (bm 26 655359) (by kernel_rfl) (by kernel_rfl) ?_
   refine ED.Y hN hF hC 17 7 (bm 26 786431) (by kernel_rfl) (by kernel_rfl) rfl (fun _ _ _ hS => YO.loadBox hS 0 rfl 21 5 1 (ib ((a0.getD a1.toNat zS28).f5)) 41 (by kernel_rfl) (by kernel_rfl) (by kernel_rfl) (by kernel_rfl)) ?_
   refine ED.Y hN hF hC 20 6 (bm 26 1835007) (by kernel_rfl) (by kernel_rfl) rfl (fun _ _ _ hS => YO.loadBox hS 0 rfl 21 6 1 (ib ((a0.getD a1.toNat zS28).f6)) 44 (by kernel_rfl) (by kernel_rfl) (by kernel_rfl) (by kernel_rfl)) ?_
   have hq := confidantref1_Int.calls d7 hS
   refine ED.one 18 5 (bm 26 2097151) (by kernel_rfl) (by kernel_rfl) (by kernel_rfl) (EO.callD 45 [ib ((a0.getD a1.toNat zS28).f5)] _ 42 (by kernel_rfl) (by kernel_rfl) (by kernel_rfl) hq ?_)
   rintro v w ⟨rfl, hS⟩
   have hC := hC.again ⟨_, _, hS⟩
   refine ⟨hC, ?_⟩
   have hq := confidantref1_Int.calls d8 hS
   refine ED.one 21 4 (bm 26 4194303) (by kernel_rfl) (by kernel_rfl) (by kernel_rfl) (EO.callD 45 [ib ((a0.getD a1.toNat zS28).f6)] _ 45 (by kernel_rfl) (by kernel_rfl) (by kernel_rfl) hq ?_)
   rintro v w ⟨rfl, hS⟩
   have hC := hC.again ⟨_, _, hS⟩
   refine ⟨hC, ?_⟩
   refine ED.one 22 3 (bm 26 8388607) (by kernel_rfl) (by kernel_rfl) (by kernel_rfl) (EO.lit hS (Kd.int .u64) 77 115 7 #[(0, ic (IntKind.u64.wrap ((a0.getD a1.toNat zS28).f0))), (1, ic (IntKind.u64.wrap ((a0.getD a1.toNat zS28).f1))), (2, ic (IntKind.u64.wrap ((a0.getD a1.toNat zS28).f2))), (3, ic (IntKind.u64.wrap ((a0.getD a1.toNat zS28).f3))), (4, ic (IntKind.u64.wrap ((a0.getD a1.toNat zS28).f4))), (5, ic b0), (6, ic a9)] [ic (IntKind.u64.wrap ((a0.getD a1.toNat zS28).f0)), ic (IntKind.u64.wrap ((a0.getD a1.toNat zS28).f1)), ic (IntKind.u64.wrap ((a0.getD a1.toNat zS28).f2)), ic (IntKind.u64.wrap ((a0.getD a1.toNat zS28).f3)), ic (IntKind.u64.wrap ((a0.getD a1.toNat zS28).f4)), ic b0, ic a9] b9 46 (by kernel_rfl) (by kernel_rfl) (by kernel_rfl) (fun _ => (by kernel_rfl)) (by rw [d3]; rfl) (by kernel_rfl) (fun w G hr => (by rw [d3]; exact ⟨[ic (IntKind.u64.wrap ((a0.getD a1.toNat zS28).f0))], [ic (IntKind.u64.wrap ((a0.getD a1.toNat zS28).f1)), ic (IntKind.u64.wrap ((a0.getD a1.toNat zS28).f2)), ic (IntKind.u64.wrap ((a0.getD a1.toNat zS28).f3)), ic (IntKind.u64.wrap ((a0.getD a1.toNat zS28).f4)), ic b0, ic a9], rfl, rfl, ⟨[ic (IntKind.u64.wrap ((a0.getD a1.toNat zS28).f1))], [ic (IntKind.u64.wrap ((a0.getD a1.toNat zS28).f2)), ic (IntKind.u64.wrap ((a0.getD a1.toNat zS28).f3)), ic (IntKind.u64.wrap ((a0.getD a1.toNat zS28).f4)), ic b0, ic a9], rfl, rfl, ⟨[ic (IntKind.u64.wrap ((a0.getD a1.toNat zS28).f2))], [ic (IntKind.u64.wrap ((a0.getD a1.toNat zS28).f3)), ic (IntKind.u64.wrap ((a0.getD a1.toNat zS28).f4)), ic b0, ic a9], rfl, rfl, ⟨[ic (IntKind.u64.wrap ((a0.getD a1.toNat zS28).f3))], [ic (IntKind.u64.wrap ((a0.getD a1.toNat zS28).f4)), ic b0, ic a9], rfl, rfl, ⟨[ic (IntKind.u64.wrap ((a0.getD a1.toNat zS28).f4))], [ic b0, ic a9], rfl, rfl, ⟨[ic b0], [ic a9], rfl, rfl, ⟨[ic a9], [], rfl, rfl, rfl⟩⟩⟩⟩⟩⟩⟩)) ?_)
   intro d1 w hS
   have hC := hC.again ⟨_, _, hS.re [1] [] rfl sub_self⟩
   refine ⟨hC, ?_⟩
   have hS := St.fr hS 0 rfl
   have hS : St B _ (Ass.box 28 a2 (encS28 (a0.getD a1.toNat zS28)) :: Ass.own 5 (Kd.int .u8) a5 a6 a4 :: os) (Ro.sl (Kd.int .u64) (some ⟨d1, 0, none⟩) 7 b9 :: Ro.sl (Kd.int .u64) (some ⟨b6, 0, none⟩) 1 b2 :: Ro.sl kS28 (some a8) a3 a0 :: rs) := hS.re [] [] rfl (sub_cons 0 rfl (sub_tail (sub_self)))
   have hq := confidantref1_Put.calls d9 hS
   refine ED.one 23 2 (bm 26 16777215) (by kernel_rfl) (by kernel_rfl) (by kernel_rfl) (EO.callD 44 [sv (some ⟨d1, 0, none⟩) 7 b9] _ 47 (by kernel_rfl) (by kernel_rfl) (by kernel_rfl) hq ?_)
   rintro v w ⟨c8, d0, rfl, hS⟩
   have hC := hC.again ⟨_, _, hS.re [1] [] rfl (sub_cons 1 rfl (sub_cons 2 rfl sub_self))⟩
   refine ⟨hC, ?_⟩
   refine ED.one 24 1 (bm 26 33554431) (by kernel_rfl) (by kernel_rfl) (by kernel_rfl) (EO.append hS 33 33 5 1 2 (Kd.int .u8) a5 a6 a4 rfl c8 d0 c1 (Rd.own 0 5 rfl) b3 e0 (fun b4 b5 => Ass.own 5 (Kd.int .u8) c8 d0 c1 :: Ass.box 28 a2 (encS28 (a0.getD a1.toNat zS28)) :: Ass.own 5 (Kd.int .u8) b4 b5 b3 :: os) 48 (by kernel_rfl) (by kernel_rfl) (by kernel_rfl) (by kernel_rfl) d4 (fun _ _ => rfl) ?_)
   intro b4 b5 w hS
   have hC := hC.again ⟨_, _, hS.re [1] [] rfl (sub_cons 1 rfl (sub_cons 2 rfl sub_self))⟩
   refine ⟨hC, ?_⟩
   refine ED.quick hN hF hC [25] [0, 3, 4] 0 [(0, sv (some a8) a3 a0), (3, sv b4 b5 b3), (4, ia a1)] (bm 26 67108863) (by kernel_rfl) (by kernel_rfl) ?_
   refine ED.done (by kernel_rfl) ?_
   refine EQ.pop ?_
   refine EQ.code ?_
   refine EW.rg (by kernel_rfl) ?_
   refine EL.quick 3 [0, 3, 4] [(0, sv (some a8) a3 a0), (3, sv b4 b5 b3), (4, ia (IntKind.i64.wrap (a1 + 1)))] (by kernel_rfl) ?_
   refine EL.done (by kernel_rfl) ?_
   refine EQ.to ?_
   refine EQ.keep [0, 3, 4] [(0, sv (some a8) a3 a0), (3, sv b4 b5 b3), (4, ia (IntKind.i64.wrap (a1 + 1)))] (by kernel_rfl) ?_
   exact fun a ha => ⟨n, Nat.lt_succ_self n, b3, IntKind.i64.wrap (a1 + 1), b4, b5, ha, (hS.re [2] [1, 1] rfl (sub_cons 1 rfl (sub_cons 2 rfl (sub_tail (sub_tail (sub_tail (sub_self))))))), H⟩
  rw [if_neg c6] at H
  refine EW.sq (by kernel_rfl) ?_
  refine EW.rg (by kernel_rfl) ?_
  refine EL.quick 1 [2] [(2, sv none 0 ([] : List Int))] (by kernel_rfl) ?_
  refine EL.done (by kernel_rfl) ?_
  refine EQ.code ?_
  refine EW.ret (by kernel_rfl) ?_
  refine EQ.ret ?_
  refine EQ.ret ?_
  refine EQ.ret ?_
  refine EQ.ret ?_
  refine EQ.ret ?_
  refine EQ.ret ?_
  have hS := St.nilO hS 5 (Kd.int .u8)
  obtain rfl := Option.some.inj H
  exact EQ.leave (sv none 0 ([] : List Int)) (by kernel_rfl) ⟨_, rfl, none, 0, rfl, (hS.re [0] [1, 1] rfl (sub_tail (sub_self)))⟩
 rw [if_neg b7] at H
 refine EW.exit (id := 0) (by kernel_rfl) ?_
 refine EQ.exitCode ?_
 refine EQ.exitTo ?_
 refine EQ.exitHere ?_
 refine EQ.code ?_
 refine EW.sq (by kernel_rfl) ?_
 refine EW.rg (by kernel_rfl) ?_
 refine EL.quick 2 [2] [(2, sv a5 a6 a4)] (by kernel_rfl) ?_
 refine EL.done (by kernel_rfl) ?_
 refine EQ.code ?_
 refine EW.ret (by kernel_rfl) ?_
 obtain rfl := Option.some.inj H
 exact EQ.leave (sv a5 a6 a4) (by kernel_rfl) ⟨_, rfl, a5, a6, rfl, (hS.re [0] [] rfl (sub_tail (sub_self)))⟩

/-! ### confidant/confidantref21.SameEvents: function 17 -/
def confidantref21_SameEvents.l0 (K : Nat) (a1 : List S28) (a2 : List S28) : Nat → Int → Option Bool
 | 0, _ => none
 | n + 1, a0 => if a0 < (a1.length : Int) then (if 0 ≤ a0 then (if a0 < (a2.length : Int) then (if ((((a1.getD a0.toNat zS28).f0) == ((a2.getD a0.toNat zS28).f0)) && ((((a1.getD a0.toNat zS28).f1) == ((a2.getD a0.toNat zS28).f1)) && ((((a1.getD a0.toNat zS28).f2) == ((a2.getD a0.toNat zS28).f2)) && ((((a1.getD a0.toNat zS28).f3) == ((a2.getD a0.toNat zS28).f3)) && ((((a1.getD a0.toNat zS28).f4) == ((a2.getD a0.toNat zS28).f4)) && ((((a1.getD a0.toNat zS28).f5) == ((a2.getD a0.toNat zS28).f5)) && ((((a1.getD a0.toNat zS28).f6) == ((a2.getD a0.toNat zS28).f6)) && true))))))) = true then (confidantref21_SameEvents.l0 K a1 a2 n (IntKind.i64.wrap (a0 + 1))) else (some false)) else none) else none) else (some true)
def confidantref21_SameEvents.f (K : Nat) (a1 : List S28) (a2 : List S28) : Option Bool := if (a1.length : Int) = (a2.length : Int) then (confidantref21_SameEvents.l0 K a1 a2 K 0) else (some false)
set_option maxRecDepth 100000 in
theorem confidantref21_SameEvents.calls {K : Nat} {a1 : List S28} {a2 : List S28} {a5 : Option Addr} {a3 : Nat} {a6 : Option Addr} {a4 : Nat} {b4 : Bool} {B w : World} {os : List Ass} {rs : List Ro} (H : confidantref21_SameEvents.f K a1 a2 = some b4) (hS : St B w (os) (Ro.sl kS28 a5 a3 a1 :: Ro.sl kS28 a6 a4 a2 :: rs)) :
  Calls Tryd.prog 17 [sv a5 a3 a1, sv a6 a4 a2].toArray w (fun en w' => ∃ v, en = .returned v ∧ v = .bool (b4) ∧ St B w' (os) (Ro.sl kS28 a5 a3 a1 :: Ro.sl kS28 a6 a4 a2 :: rs)) := by
 unfold confidantref21_SameEvents.f at H
 refine calls_of_EW (args := [sv a5 a3 a1, sv a6 a4 a2]) (c := Cd17) 26 Tryd.func17 (by kernel_rfl) (by kernel_rfl) (by kernel_rfl) ?_
 refine EW.sq (by kernel_rfl) ?_
 refine EW.rg (by kernel_rfl) ?_
 refine EL.quick 1 [0, 1] [(0, sv a5 a3 a1), (1, sv a6 a4 a2)] (by kernel_rfl) ?_
 refine EL.done (by kernel_rfl) ?_
 refine EQ.code ?_
 refine EW.sq (by kernel_rfl) ?_
 refine EW.sq (by kernel_rfl) ?_
 refine EW.rg (by kernel_rfl) ?_
 refine EL.quick 5 [0, 1, 10] [(0, sv a5 a3 a1), (1, sv a6 a4 a2), (10, .bool (!(decide ((a1.length : Int) = (a2.length : Int)))))] (by kernel_rfl) ?_
 refine EL.done (by kernel_rfl) ?_
 refine EQ.code ?_
 refine EW.cdQ (b := !(decide ((a1.length : Int) = (a2.length : Int)))) ((a1.length : Int) = (a2.length : Int)) (false) (by kernel_rfl) (by kernel_rfl) ⟨fun h => (by rw [decide_eq_true h] <;> rfl), fun h => (by rw [decide_eq_false h] <;> rfl)⟩ (fun b1 => ?_) (fun b1 => ?_)
 ·rw [if_pos b1] at H
  refine EW.skip (by kernel_rfl) ?_
  refine EQ.code ?_
  refine EW.sq (by kernel_rfl) ?_
  refine EW.sq (by kernel_rfl) ?_
  refine EW.rg (by kernel_rfl) ?_
  refine EL.quick 1 [0, 1, 5] [(0, sv a5 a3 a1), (1, sv a6 a4 a2), (5, ia 0)] (by kernel_rfl) ?_
  refine EL.done (by kernel_rfl) ?_
  refine EQ.code ?_
  refine EW.bl 0 (by kernel_rfl) ?_
  refine EW.lp (fun n a w => ∃ a0 : Int, Sat 26 [(0, sv a5 a3 a1), (1, sv a6 a4 a2), (5, ia a0)] a ∧ St B w (os) (Ro.sl kS28 a5 a3 a1 :: Ro.sl kS28 a6 a4 a2 :: rs) ∧ confidantref21_SameEvents.l0 K a1 a2 n a0 = some b4) K (by kernel_rfl) ?_ (fun n a w hI => ?_)
  ·refine EQ.keep [0, 1, 5] [(0, sv a5 a3 a1), (1, sv a6 a4 a2), (5, ia 0)] (by kernel_rfl) ?_
   exact fun a ha => ⟨0, ha, (hS.re [] [] rfl (sub_cons 0 rfl (sub_cons 1 rfl (sub_tail (sub_tail (sub_self)))))), H⟩
  obtain ⟨a0, ha, hS, H⟩ := hI
  obtain _ | n := n
  ·simp [confidantref21_SameEvents.l0] at H
  rw [confidantref21_SameEvents.l0.eq_2] at H
  refine EW.at ?_ a ha
  clear ha a
  refine EW.sq (by kernel_rfl) ?_
  refine EW.sq (by kernel_rfl) ?_
  refine EW.rg (by kernel_rfl) ?_
  refine EL.quick 4 [0, 1, 5, 14] [(0, sv a5 a3 a1), (1, sv a6 a4 a2), (5, ia a0), (14, .bool (decide (a0 < (a1.length : Int))))] (by kernel_rfl) ?_
  refine EL.done (by kernel_rfl) ?_
  refine EQ.code ?_
  refine EW.cdP (a0 < (a1.length : Int)) (by kernel_rfl) (by kernel_rfl) (fun a9 => ?_) (fun a9 => ?_)
  ·rw [if_pos a9] at H
   refine EW.skip (by kernel_rfl) ?_
   refine EQ.code ?_
   refine EW.sq (by kernel_rfl) ?_
   refine EW.bl 1 (by kernel_rfl) ?_
   refine EW.sq (by kernel_rfl) ?_
   obtain ⟨b0, H⟩ := ite_in H
   obtain ⟨a7, rfl⟩ := St.rd_some hS (Rd.ro 0 rfl) b0 a9
   obtain ⟨b2, H⟩ := ite_in H
   obtain ⟨a8, rfl⟩ := St.rd_some hS (Rd.ro 1 rfl) b0 b2
   have hS := hS.drew
   refine EW.dr (B := B) [] [Ro.sl kS28 (some a7) a3 a1, Ro.sl kS28 (some a8) a4 a2] (by kernel_rfl) (by kernel_rfl) ?_
   have hN : Region.noSelect Cd17.r.r.l.r.l.l.r.l.l.l.ops = true := (by kernel_rfl)
   have hF : freeAll Cd17.r.r.l.r.l.l.r.l.l.l.ops = true := (by kernel_rfl)
   have hC : Core B [] [Ro.sl kS28 (some a7) a3 a1, Ro.sl kS28 (some a8) a4 a2] _ := ⟨_, _, hS⟩
   refine ED.quick hN hF hC [0, 1, 4, 5] [0, 1, 5, 17, 18, 21, 22] 5 [(0, sv (some a7) a3 a1), (1, sv (some a8) a4 a2), (5, ia a0), (17, sv (some a7) a3 a1), (18, ia a0), (21, sv (some a8) a4 a2), (22, ia a0)] (bm 9 51) (by kernel_rfl) (by kernel_rfl) ?_
   refine ED.Y hN hF hC 2 4 (bm 9 55) (by kernel_rfl) (by kernel_rfl) rfl (fun _ _ _ hS => YO.idx 22 7 a7 a1.length a3 .i64 a0 19 (by kernel_rfl) (by kernel_rfl) (by kernel_rfl) (by kernel_rfl) b0 a9) ?_
   refine ED.Y hN hF hC 3 3 (bm 9 63) (by kernel_rfl) (by kernel_rfl) rfl (fun _ _ _ hS => YO.loadEl hS kS28 a7 a3 a1 (Rd.ro 0 rfl) zS28 encS28 encS28_of a0 b0 a9 28 7 0 7 rfl (ag (encS28 (a1.getD a0.toNat zS28))) 20 (by kernel_rfl) (by kernel_rfl) (by kernel_rfl) (by kernel_rfl)) ?_
   refine ED.Y hN hF hC 6 2 (bm 9 127) (by kernel_rfl) (by kernel_rfl) rfl (fun _ _ _ hS => YO.idx 22 7 a8 a2.length a4 .i64 a0 23 (by kernel_rfl) (by kernel_rfl) (by kernel_rfl) (by kernel_rfl) b0 b2) ?_
   refine ED.Y hN hF hC 7 1 (bm 9 255) (by kernel_rfl) (by kernel_rfl) rfl (fun _ _ _ hS => YO.loadEl hS kS28 a8 a4 a2 (Rd.ro 1 rfl) zS28 encS28 encS28_of a0 b0 b2 28 7 0 7 rfl (ag (encS28 (a2.getD a0.toNat zS28))) 24 (by kernel_rfl) (by kernel_rfl) (by kernel_rfl) (by kernel_rfl)) ?_
   refine ED.Y hN hF hC 8 0 (bm 9 511) (by kernel_rfl) (by kernel_rfl) rfl (fun _ _ _ hS => YO.eqAg .neq 28 (.tmp 20) (.tmp 24) #[ia ((a1.getD a0.toNat zS28).f0), ia ((a1.getD a0.toNat zS28).f1), ia ((a1.getD a0.toNat zS28).f2), ia ((a1.getD a0.toNat zS28).f3), ib ((a1.getD a0.toNat zS28).f4), ib ((a1.getD a0.toNat zS28).f5), ib ((a1.getD a0.toNat zS28).f6)] #[ia ((a2.getD a0.toNat zS28).f0), ia ((a2.getD a0.toNat zS28).f1), ia ((a2.getD a0.toNat zS28).f2), ia ((a2.getD a0.toNat zS28).f3), ib ((a2.getD a0.toNat zS28).f4), ib ((a2.getD a0.toNat zS28).f5), ib ((a2.getD a0.toNat zS28).f6)] ((((a1.getD a0.toNat zS28).f0) == ((a2.getD a0.toNat zS28).f0)) && ((((a1.getD a0.toNat zS28).f1) == ((a2.getD a0.toNat zS28).f1)) && ((((a1.getD a0.toNat zS28).f2) == ((a2.getD a0.toNat zS28).f2)) && ((((a1.getD a0.toNat zS28).f3) == ((a2.getD a0.toNat zS28).f3)) && ((((a1.getD a0.toNat zS28).f4) == ((a2.getD a0.toNat zS28).f4)) && ((((a1.getD a0.toNat zS28).f5) == ((a2.getD a0.toNat zS28).f5)) && ((((a1.getD a0.toNat zS28).f6) == ((a2.getD a0.toNat zS28).f6)) && true))))))) (!(((((a1.getD a0.toNat zS28).f0) == ((a2.getD a0.toNat zS28).f0)) && ((((a1.getD a0.toNat zS28).f1) == ((a2.getD a0.toNat zS28).f1)) && ((((a1.getD a0.toNat zS28).f2) == ((a2.getD a0.toNat zS28).f2)) && ((((a1.getD a0.toNat zS28).f3) == ((a2.getD a0.toNat zS28).f3)) && ((((a1.getD a0.toNat zS28).f4) == ((a2.getD a0.toNat zS28).f4)) && ((((a1.getD a0.toNat zS28).f5) == ((a2.getD a0.toNat zS28).f5)) && ((((a1.getD a0.toNat zS28).f6) == ((a2.getD a0.toNat zS28).f6)) && true))))))))) 25 (by kernel_rfl) (by kernel_rfl) (by kernel_rfl) (by kernel_rfl) (by kernel_rfl) (.inr ⟨rfl, rfl⟩)) ?_
   refine ED.done (by kernel_rfl) ?_
   refine EQ.code ?_
   refine EW.cdQ (b := !(((((a1.getD a0.toNat zS28).f0) == ((a2.getD a0.toNat zS28).f0)) && ((((a1.getD a0.toNat zS28).f1) == ((a2.getD a0.toNat zS28).f1)) && ((((a1.getD a0.toNat zS28).f2) == ((a2.getD a0.toNat zS28).f2)) && ((((a1.getD a0.toNat zS28).f3) == ((a2.getD a0.toNat zS28).f3)) && ((((a1.getD a0.toNat zS28).f4) == ((a2.getD a0.toNat zS28).f4)) && ((((a1.getD a0.toNat zS28).f5) == ((a2.getD a0.toNat zS28).f5)) && ((((a1.getD a0.toNat zS28).f6) == ((a2.getD a0.toNat zS28).f6)) && true))))))))) (((((a1.getD a0.toNat zS28).f0) == ((a2.getD a0.toNat zS28).f0)) && ((((a1.getD a0.toNat zS28).f1) == ((a2.getD a0.toNat zS28).f1)) && ((((a1.getD a0.toNat zS28).f2) == ((a2.getD a0.toNat zS28).f2)) && ((((a1.getD a0.toNat zS28).f3) == ((a2.getD a0.toNat zS28).f3)) && ((((a1.getD a0.toNat zS28).f4) == ((a2.getD a0.toNat zS28).f4)) && ((((a1.getD a0.toNat zS28).f5) == ((a2.getD a0.toNat zS28).f5)) && ((((a1.getD a0.toNat zS28).f6) == ((a2.getD a0.toNat zS28).f6)) && true))))))) = true) (false) (by kernel_rfl) (by kernel_rfl) ⟨fun h => (by rw [h] <;> rfl), fun h => (by rw [Bool.eq_false_iff.2 h] <;> rfl)⟩ (fun b3 => ?_) (fun b3 => ?_)
   ·rw [if_pos b3] at H
    refine EW.skip (by kernel_rfl) ?_
    refine EQ.pop ?_
    refine EQ.code ?_
    refine EW.rg (by kernel_rfl) ?_
    refine EL.quick 3 [0, 1, 5] [(0, sv (some a7) a3 a1), (1, sv (some a8) a4 a2), (5, ia (IntKind.i64.wrap (a0 + 1)))] (by kernel_rfl) ?_
    refine EL.done (by kernel_rfl) ?_
    refine EQ.to ?_
    refine EQ.keep [0, 1, 5] [(0, sv (some a7) a3 a1), (1, sv (some a8) a4 a2), (5, ia (IntKind.i64.wrap (a0 + 1)))] (by kernel_rfl) ?_
    exact fun a ha => ⟨n, Nat.lt_succ_self n, IntKind.i64.wrap (a0 + 1), ha, (hS.re [] [] rfl (sub_cons 0 rfl (sub_cons 1 rfl (sub_tail (sub_tail (sub_self)))))), H⟩
   rw [if_neg b3] at H
   refine EW.sq (by kernel_rfl) ?_
   refine EW.rg (by kernel_rfl) ?_
   refine EL.quick 1 [4] [(4, .bool (false))] (by kernel_rfl) ?_
   refine EL.done (by kernel_rfl) ?_
   refine EQ.code ?_
   refine EW.ret (by kernel_rfl) ?_
   refine EQ.ret ?_
   refine EQ.ret ?_
   refine EQ.ret ?_
   refine EQ.ret ?_
   refine EQ.ret ?_
   obtain rfl := Option.some.inj H
   exact EQ.leave (.bool (false)) (by kernel_rfl) ⟨_, rfl, rfl, (hS.re [] [] rfl (sub_self))⟩
  rw [if_neg a9] at H
  refine EW.exit (id := 0) (by kernel_rfl) ?_
  refine EQ.exitCode ?_
  refine EQ.exitTo ?_
  refine EQ.exitHere ?_
  refine EQ.code ?_
  refine EW.sq (by kernel_rfl) ?_
  refine EW.rg (by kernel_rfl) ?_
  refine EL.quick 1 [4] [(4, .bool (true))] (by kernel_rfl) ?_
  refine EL.done (by kernel_rfl) ?_
  refine EQ.code ?_
  refine EW.ret (by kernel_rfl) ?_
  obtain rfl := Option.some.inj H
  exact EQ.leave (.bool (true)) (by kernel_rfl) ⟨_, rfl, rfl, (hS.re [] [] rfl (sub_self))⟩
 rw [if_neg b1] at H
 refine EW.sq (by kernel_rfl) ?_
 refine EW.rg (by kernel_rfl) ?_
 refine EL.quick 1 [4] [(4, .bool (false))] (by kernel_rfl) ?_
 refine EL.done (by kernel_rfl) ?_
 refine EQ.code ?_
 refine EW.ret (by kernel_rfl) ?_
 refine EQ.ret ?_
 obtain rfl := Option.some.inj H
 exact EQ.leave (.bool (false)) (by kernel_rfl) ⟨_, rfl, rfl, (hS.re [] [] rfl (sub_self))⟩

/-! ### confidant/confidantref21.in: function 49 -/
def confidantref21_in.l0 (K : Nat) (a0 : List Int) (a2 : Int) : Nat → Int → Option Bool
 | 0, _ => none
 | n + 1, a1 => if a1 < (a0.length : Int) then (if 0 ≤ a1 then (if (a0.getD a1.toNat 0) = a2 then (some true) else (confidantref21_in.l0 K a0 a2 n (IntKind.i64.wrap (a1 + 1)))) else none) else (some false)
def confidantref21_in.f (K : Nat) (a0 : List Int) (a2 : Int) : Option Bool := confidantref21_in.l0 K a0 a2 K 0
set_option maxRecDepth 100000 in
theorem confidantref21_in.calls {K : Nat} {a0 : List Int} {a2 : Int} {a4 : Option Addr} {a3 : Nat} {a9 : Bool} {B w : World} {os : List Ass} {rs : List Ro} (H : confidantref21_in.f K a0 a2 = some a9) (hS : St B w (os) (Ro.sl (Kd.int .i64) a4 a3 a0 :: rs)) :
  Calls Tryd.prog 49 [sv a4 a3 a0, ia a2].toArray w (fun en w' => ∃ v, en = .returned v ∧ v = .bool (a9) ∧ St B w' (os) (Ro.sl (Kd.int .i64) a4 a3 a0 :: rs)) := by
 unfold confidantref21_in.f at H
 refine calls_of_EW (args := [sv a4 a3 a0, ia a2]) (c := Cd49) 18 Tryd.func49 (by kernel_rfl) (by kernel_rfl) (by kernel_rfl) ?_
 refine EW.sq (by kernel_rfl) ?_
 refine EW.rg (by kernel_rfl) ?_
 refine EL.quick 1 [0, 1] [(0, sv a4 a3 a0), (1, ia a2)] (by kernel_rfl) ?_
 refine EL.done (by kernel_rfl) ?_
 refine EQ.code ?_
 refine EW.sq (by kernel_rfl) ?_
 refine EW.sq (by kernel_rfl) ?_
 refine EW.rg (by kernel_rfl) ?_
 refine EL.quick 1 [0, 1, 5] [(0, sv a4 a3 a0), (1, ia a2), (5, ia 0)] (by kernel_rfl) ?_
 refine EL.done (by kernel_rfl) ?_
 refine EQ.code ?_
 refine EW.bl 0 (by kernel_rfl) ?_
 refine EW.lp (fun n a w => ∃ a1 : Int, Sat 18 [(0, sv a4 a3 a0), (1, ia a2), (5, ia a1)] a ∧ St B w (os) (Ro.sl (Kd.int .i64) a4 a3 a0 :: rs) ∧ confidantref21_in.l0 K a0 a2 n a1 = some a9) K (by kernel_rfl) ?_ (fun n a w hI => ?_)
 ·refine EQ.keep [0, 1, 5] [(0, sv a4 a3 a0), (1, ia a2), (5, ia 0)] (by kernel_rfl) ?_
  exact fun a ha => ⟨0, ha, (hS.re [] [] rfl (sub_cons 0 rfl (sub_tail (sub_self)))), H⟩
 obtain ⟨a1, ha, hS, H⟩ := hI
 obtain _ | n := n
 ·simp [confidantref21_in.l0] at H
 rw [confidantref21_in.l0.eq_2] at H
 refine EW.at ?_ a ha
 clear ha a
 refine EW.sq (by kernel_rfl) ?_
 refine EW.sq (by kernel_rfl) ?_
 refine EW.rg (by kernel_rfl) ?_
 refine EL.quick 4 [0, 1, 5, 9] [(0, sv a4 a3 a0), (1, ia a2), (5, ia a1), (9, .bool (decide (a1 < (a0.length : Int))))] (by kernel_rfl) ?_
 refine EL.done (by kernel_rfl) ?_
 refine EQ.code ?_
 refine EW.cdP (a1 < (a0.length : Int)) (by kernel_rfl) (by kernel_rfl) (fun a5 => ?_) (fun a5 => ?_)
 ·rw [if_pos a5] at H
  refine EW.skip (by kernel_rfl) ?_
  refine EQ.code ?_
  refine EW.sq (by kernel_rfl) ?_
  refine EW.bl 1 (by kernel_rfl) ?_
  refine EW.sq (by kernel_rfl) ?_
  refine EW.rg (by kernel_rfl) ?_
  refine EL.quick 2 [0, 1, 5, 12, 13] [(0, sv a4 a3 a0), (1, ia a2), (5, ia a1), (12, sv a4 a3 a0), (13, ia a1)] (by kernel_rfl) ?_
  obtain ⟨a7, H⟩ := ite_in H
  obtain ⟨a6, rfl⟩ := St.rd_some hS (Rd.ro 0 rfl) a7 a5
  refine EL.of (EO.Y (YO.idx 24 1 a6 a0.length a3 .i64 a1 14 (by kernel_rfl) (by kernel_rfl) (by kernel_rfl) (by kernel_rfl) a7 a5) ?_)
  refine EL.of (EO.Y (YO.loadEl hS (Kd.int .i64) a6 a3 a0 (Rd.ro 0 rfl) 0 (encI .i64) encI_of a1 a7 a5 3 1 0 1 rfl (ia (a0.getD a1.toNat 0)) 15 (by kernel_rfl) (by kernel_rfl) (by kernel_rfl) (by kernel_rfl)) ?_)
  refine EL.quick 2 [0, 1, 5, 17] [(0, sv (some a6) a3 a0), (1, ia a2), (5, ia a1), (17, .bool (decide ((a0.getD a1.toNat 0) = a2)))] (by kernel_rfl) ?_
  refine EL.done (by kernel_rfl) ?_
  refine EQ.code ?_
  refine EW.cdP ((a0.getD a1.toNat 0) = a2) (by kernel_rfl) (by kernel_rfl) (fun a8 => ?_) (fun a8 => ?_)
  ·rw [if_pos a8] at H
   refine EW.sq (by kernel_rfl) ?_
   refine EW.rg (by kernel_rfl) ?_
   refine EL.quick 1 [4] [(4, .bool (true))] (by kernel_rfl) ?_
   refine EL.done (by kernel_rfl) ?_
   refine EQ.code ?_
   refine EW.ret (by kernel_rfl) ?_
   refine EQ.ret ?_
   refine EQ.ret ?_
   refine EQ.ret ?_
   refine EQ.ret ?_
   refine EQ.ret ?_
   obtain rfl := Option.some.inj H
   exact EQ.leave (.bool (true)) (by kernel_rfl) ⟨_, rfl, rfl, (hS.re [] [] rfl (sub_self))⟩
  rw [if_neg a8] at H
  refine EW.skip (by kernel_rfl) ?_
  refine EQ.pop ?_
  refine EQ.code ?_
  refine EW.rg (by kernel_rfl) ?_
  refine EL.quick 3 [0, 1, 5] [(0, sv (some a6) a3 a0), (1, ia a2), (5, ia (IntKind.i64.wrap (a1 + 1)))] (by kernel_rfl) ?_
  refine EL.done (by kernel_rfl) ?_
  refine EQ.to ?_
  refine EQ.keep [0, 1, 5] [(0, sv (some a6) a3 a0), (1, ia a2), (5, ia (IntKind.i64.wrap (a1 + 1)))] (by kernel_rfl) ?_
  exact fun a ha => ⟨n, Nat.lt_succ_self n, IntKind.i64.wrap (a1 + 1), ha, (hS.re [] [] rfl (sub_cons 0 rfl (sub_tail (sub_self)))), H⟩
 rw [if_neg a5] at H
 refine EW.exit (id := 0) (by kernel_rfl) ?_
 refine EQ.exitCode ?_
 refine EQ.exitTo ?_
 refine EQ.exitHere ?_
 refine EQ.code ?_
 refine EW.sq (by kernel_rfl) ?_
 refine EW.rg (by kernel_rfl) ?_
 refine EL.quick 1 [4] [(4, .bool (false))] (by kernel_rfl) ?_
 refine EL.done (by kernel_rfl) ?_
 refine EQ.code ?_
 refine EW.ret (by kernel_rfl) ?_
 obtain rfl := Option.some.inj H
 exact EQ.leave (.bool (false)) (by kernel_rfl) ⟨_, rfl, rfl, (hS.re [] [] rfl (sub_self))⟩

/-! ### confidant/confidantref21.EventsOf: function 20 -/
def confidantref21_EventsOf.l0 (K : Nat) (a0 : List S28) (a2 : List Int) : Nat → (List S28) → Int → Option (List S28)
 | 0, _, _ => none
 | n + 1, a6, a1 => if a1 < (a0.length : Int) then (lt (fun (b2 : List S28) => (confidantref21_EventsOf.l0 K a0 a2 n b2 (IntKind.i64.wrap (a1 + 1)))) fun c2 => (if 0 ≤ a1 then (b1 (confidantref21_in.f K a2 ((a0.getD a1.toNat zS28).f1)) fun (c4 : Bool) => (if c4 = true then (lt ([(a0.getD a1.toNat zS28)] : List S28) fun b7 => (if (a6.length + b7.length) * 48 ≤ 140737488355328 then (lt (a6 ++ b7) fun b4 => (c2 b4)) else none)) else (c2 a6))) else none)) else (some a6)
def confidantref21_EventsOf.f (K : Nat) (a0 : List S28) (a2 : List Int) : Option (List S28) := confidantref21_EventsOf.l0 K a0 a2 K ([] : List S28) 0
set_option maxRecDepth 100000 in
theorem confidantref21_EventsOf.calls {K : Nat} {a0 : List S28} {a2 : List Int} {a7 : Option Addr} {a3 : Nat} {a4 : Option Addr} {a5 : Nat} {c1 : List S28} {B w : World} {os : List Ass} {rs : List Ro} (H : confidantref21_EventsOf.f K a0 a2 = some c1) (hS : St B w (os) (Ro.sl kS28 a7 a3 a0 :: Ro.sl (Kd.int .i64) a4 a5 a2 :: rs)) :
  Calls Tryd.prog 20 [sv a7 a3 a0, sv a4 a5 a2].toArray w (fun en w' => ∃ v, en = .returned v ∧ ∃ c5 : Option Addr, ∃ c6 : Nat, v = sv c5 c6 c1 ∧ St B w' (Ass.own 28 kS28 c5 c6 c1 :: os) (Ro.sl kS28 a7 a3 a0 :: Ro.sl (Kd.int .i64) a4 a5 a2 :: rs)) := by
 unfold confidantref21_EventsOf.f at H
 refine calls_of_EW (args := [sv a7 a3 a0, sv a4 a5 a2]) (c := Cd20) 28 Tryd.func20 (by kernel_rfl) (by kernel_rfl) (by kernel_rfl) ?_
 refine EW.sq (by kernel_rfl) ?_
 refine EW.rg (by kernel_rfl) ?_
 refine EL.quick 1 [0, 1] [(0, sv a7 a3 a0), (1, sv a4 a5 a2)] (by kernel_rfl) ?_
 refine EL.done (by kernel_rfl) ?_
 refine EQ.code ?_
 refine EW.sq (by kernel_rfl) ?_
 refine EW.rg (by kernel_rfl) ?_
 refine EL.quick 1 [0, 1, 5] [(0, sv a7 a3 a0), (1, sv a4 a5 a2), (5, sv none 0 ([] : List S28))] (by kernel_rfl) ?_
 refine EL.done (by kernel_rfl) ?_
 refine EQ.code ?_
 refine EW.sq (by kernel_rfl) ?_
 refine EW.sq (by kernel_rfl) ?_
 refine EW.rg (by kernel_rfl) ?_
 refine EL.quick 1 [0, 1, 5, 6] [(0, sv a7 a3 a0), (1, sv a4 a5 a2), (5, sv none 0 ([] : List S28)), (6, ia 0)] (by kernel_rfl) ?_
 refine EL.done (by kernel_rfl) ?_
 refine EQ.code ?_
 refine EW.bl 0 (by kernel_rfl) ?_
 have hS := St.nilO hS 28 kS28
 refine EW.lp (fun n a w => ∃ a6 : List S28, ∃ a1 : Int, ∃ a8 : Option Addr, ∃ a9 : Nat, Sat 28 [(0, sv a7 a3 a0), (1, sv a4 a5 a2), (5, sv a8 a9 a6), (6, ia a1)] a ∧ St B w (Ass.own 28 kS28 a8 a9 a6 :: os) (Ro.sl kS28 a7 a3 a0 :: Ro.sl (Kd.int .i64) a4 a5 a2 :: rs) ∧ confidantref21_EventsOf.l0 K a0 a2 n a6 a1 = some c1) K (by kernel_rfl) ?_ (fun n a w hI => ?_)
 ·refine EQ.keep [0, 1, 5, 6] [(0, sv a7 a3 a0), (1, sv a4 a5 a2), (5, sv none 0 ([] : List S28)), (6, ia 0)] (by kernel_rfl) ?_
  exact fun a ha => ⟨([] : List S28), 0, none, 0, ha, (hS.re [0] [] rfl (sub_cons 0 rfl (sub_cons 1 rfl (sub_tail (sub_tail (sub_self)))))), H⟩
 obtain ⟨a6, a1, a8, a9, ha, hS, H⟩ := hI
 obtain _ | n := n
 ·simp [confidantref21_EventsOf.l0] at H
 rw [confidantref21_EventsOf.l0.eq_2] at H
 refine EW.at ?_ a ha
 clear ha a
 refine EW.sq (by kernel_rfl) ?_
 refine EW.sq (by kernel_rfl) ?_
 refine EW.rg (by kernel_rfl) ?_
 refine EL.quick 4 [0, 1, 5, 6, 10] [(0, sv a7 a3 a0), (1, sv a4 a5 a2), (5, sv a8 a9 a6), (6, ia a1), (10, .bool (decide (a1 < (a0.length : Int))))] (by kernel_rfl) ?_
 refine EL.done (by kernel_rfl) ?_
 refine EQ.code ?_
 refine EW.cdP (a1 < (a0.length : Int)) (by kernel_rfl) (by kernel_rfl) (fun b3 => ?_) (fun b3 => ?_)
 ·rw [if_pos b3] at H
  refine EW.skip (by kernel_rfl) ?_
  refine EQ.code ?_
  obtain ⟨c2, d1, H⟩ := lt_out H
  refine EW.ct (fun a w => ∃ b2 : List S28, ∃ b5 : Option Addr, ∃ b6 : Nat, Sat 28 [(0, sv a7 a3 a0), (1, sv a4 a5 a2), (5, sv b5 b6 b2), (6, ia a1)] a ∧ St B w (Ass.own 28 kS28 b5 b6 b2 :: os) (Ro.sl (Kd.int .i64) a4 a5 a2 :: Ro.sl kS28 a7 a3 a0 :: rs) ∧ c2 b2 = some c1) (by kernel_rfl) ?_ (fun a w hI => ?_)
  ·refine EW.bl 1 (by kernel_rfl) ?_
   refine EW.sq (by kernel_rfl) ?_
   refine EW.rg (by kernel_rfl) ?_
   refine EL.quick 3 [0, 1, 5, 6, 13, 14, 15] [(0, sv a7 a3 a0), (1, sv a4 a5 a2), (5, sv a8 a9 a6), (6, ia a1), (13, sv a4 a5 a2), (14, sv a7 a3 a0), (15, ia a1)] (by kernel_rfl) ?_
   obtain ⟨c0, H⟩ := ite_in H
   obtain ⟨b0, rfl⟩ := St.rd_some hS (Rd.ro 0 rfl) c0 b3
   refine EL.of (EO.Y (YO.idx 22 7 b0 a0.length a3 .i64 a1 16 (by kernel_rfl) (by kernel_rfl) (by kernel_rfl) (by kernel_rfl) c0 b3) ?_)
   refine EL.quick 1 [0, 1, 5, 6, 13, 17] [(0, sv (some b0) a3 a0), (1, sv a4 a5 a2), (5, sv a8 a9 a6), (6, ia a1), (13, sv a4 a5 a2), (17, .pointer (some ((b0.add (a1.toNat * 7)).add 1)))] (by kernel_rfl) ?_
   refine EL.of (EO.Y (YO.loadEl hS kS28 b0 a3 a0 (Rd.ro 0 rfl) zS28 encS28 encS28_of a1 c0 b3 3 7 1 1 rfl (ia ((a0.getD a1.toNat zS28).f1)) 18 (by kernel_rfl) (by kernel_rfl) (by kernel_rfl) (by kernel_rfl)) ?_)
   have hS : St B _ (Ass.own 28 kS28 a8 a9 a6 :: os) (Ro.sl (Kd.int .i64) a4 a5 a2 :: Ro.sl kS28 (some b0) a3 a0 :: rs) := hS.re [] [] rfl (sub_cons 1 rfl (sub_cons 0 rfl (sub_tail (sub_tail (sub_self)))))
   obtain ⟨c4, d0, H⟩ := b1_out H
   have hq := confidantref21_in.calls d0 hS
   refine EL.of (EO.callD 49 [sv a4 a5 a2, ia ((a0.getD a1.toNat zS28).f1)] _ 19 (by kernel_rfl) (by kernel_rfl) (by kernel_rfl) hq ?_)
   rintro v w ⟨rfl, hS⟩
   refine EL.done (by kernel_rfl) ?_
   refine EQ.code ?_
   refine EW.cdP' (c4) (by kernel_rfl) (by kernel_rfl) (fun c3 => ?_) (fun c3 => ?_)
   ·rw [if_pos c3] at H
    refine EW.rg (by kernel_rfl) ?_
    refine EL.quick 3 [0, 1, 6, 20, 21, 22] [(0, sv (some b0) a3 a0), (1, sv a4 a5 a2), (6, ia a1), (20, sv a8 a9 a6), (21, sv (some b0) a3 a0), (22, ia a1)] (by kernel_rfl) ?_
    refine EL.of (EO.Y (YO.idx 22 7 b0 a0.length a3 .i64 a1 23 (by kernel_rfl) (by kernel_rfl) (by kernel_rfl) (by kernel_rfl) c0 b3) ?_)
    refine EL.of (EO.Y (YO.loadEl hS kS28 b0 a3 a0 (Rd.ro 1 rfl) zS28 encS28 encS28_of a1 c0 b3 28 7 0 7 rfl (ag (encS28 (a0.getD a1.toNat zS28))) 24 (by kernel_rfl) (by kernel_rfl) (by kernel_rfl) (by kernel_rfl)) ?_)
    obtain ⟨b7, c8, H⟩ := lt_out H
    refine EL.of (EO.lit hS kS28 28 22 1 #[(0, ag (encS28 (a0.getD a1.toNat zS28)))] [ia ((a0.getD a1.toNat zS28).f0), ia ((a0.getD a1.toNat zS28).f1), ia ((a0.getD a1.toNat zS28).f2), ia ((a0.getD a1.toNat zS28).f3), ib ((a0.getD a1.toNat zS28).f4), ib ((a0.getD a1.toNat zS28).f5), ib ((a0.getD a1.toNat zS28).f6)] b7 25 (by kernel_rfl) (by kernel_rfl) (by kernel_rfl) (fun _ => (by kernel_rfl)) (by rw [c8]; rfl) (by kernel_rfl) (fun w G hr => (by rw [c8]; exact ⟨[ia ((a0.getD a1.toNat zS28).f0), ia ((a0.getD a1.toNat zS28).f1), ia ((a0.getD a1.toNat zS28).f2), ia ((a0.getD a1.toNat zS28).f3), ib ((a0.getD a1.toNat zS28).f4), ib ((a0.getD a1.toNat zS28).f5), ib ((a0.getD a1.toNat zS28).f6)], [], rfl, ⟨[ia ((a0.getD a1.toNat zS28).f0)], [ia ((a0.getD a1.toNat zS28).f1), ia ((a0.getD a1.toNat zS28).f2), ia ((a0.getD a1.toNat zS28).f3), ib ((a0.getD a1.toNat zS28).f4), ib ((a0.getD a1.toNat zS28).f5), ib ((a0.getD a1.toNat zS28).f6)], rfl, rfl, ⟨[ia ((a0.getD a1.toNat zS28).f1)], [ia ((a0.getD a1.toNat zS28).f2), ia ((a0.getD a1.toNat zS28).f3), ib ((a0.getD a1.toNat zS28).f4), ib ((a0.getD a1.toNat zS28).f5), ib ((a0.getD a1.toNat zS28).f6)], rfl, rfl, ⟨[ia ((a0.getD a1.toNat zS28).f2)], [ia ((a0.getD a1.toNat zS28).f3), ib ((a0.getD a1.toNat zS28).f4), ib ((a0.getD a1.toNat zS28).f5), ib ((a0.getD a1.toNat zS28).f6)], rfl, rfl, ⟨[ia ((a0.getD a1.toNat zS28).f3)], [ib ((a0.getD a1.toNat zS28).f4), ib ((a0.getD a1.toNat zS28).f5), ib ((a0.getD a1.toNat zS28).f6)], rfl, rfl, ⟨[ib ((a0.getD a1.toNat zS28).f4)], [ib ((a0.getD a1.toNat zS28).f5), ib ((a0.getD a1.toNat zS28).f6)], rfl, rfl, ⟨[ib ((a0.getD a1.toNat zS28).f5)], [ib ((a0.getD a1.toNat zS28).f6)], rfl, rfl, ⟨[ib ((a0.getD a1.toNat zS28).f6)], [], rfl, rfl, rfl⟩⟩⟩⟩⟩⟩⟩, rfl⟩)) ?_)
    intro c7 w hS
    obtain ⟨c9, H⟩ := ite_in H
    obtain ⟨b4, d2, H⟩ := lt_out H
    refine EL.of (EO.append hS 22 22 28 48 1 kS28 a8 a9 a6 rfl (some ⟨c7, 0, none⟩) 1 b7 (Rd.own 0 28 rfl) b4 d2 (fun b8 b9 => Ass.own 28 kS28 (some ⟨c7, 0, none⟩) 1 b7 :: Ass.own 28 kS28 b8 b9 b4 :: os) 26 (by kernel_rfl) (by kernel_rfl) (by kernel_rfl) (by kernel_rfl) c9 (fun _ _ => rfl) ?_)
    intro b8 b9 w hS
    refine EL.quick 1 [0, 1, 5, 6] [(0, sv (some b0) a3 a0), (1, sv a4 a5 a2), (5, sv b8 b9 b4), (6, ia a1)] (by kernel_rfl) ?_
    refine EL.done (by kernel_rfl) ?_
    refine EQ.pop ?_
    refine EQ.to ?_
    refine EQ.keep [0, 1, 5, 6] [(0, sv (some b0) a3 a0), (1, sv a4 a5 a2), (5, sv b8 b9 b4), (6, ia a1)] (by kernel_rfl) ?_
    exact fun a ha => ⟨b4, b8, b9, ha, (hS.re [1] [1] rfl (sub_cons 0 rfl (sub_cons 1 rfl (sub_tail (sub_tail (sub_self)))))), H⟩
   rw [if_neg c3] at H
   refine EW.skip (by kernel_rfl) ?_
   refine EQ.pop ?_
   refine EQ.to ?_
   refine EQ.keep [0, 1, 5, 6] [(0, sv (some b0) a3 a0), (1, sv a4 a5 a2), (5, sv a8 a9 a6), (6, ia a1)] (by kernel_rfl) ?_
   exact fun a ha => ⟨a6, a8, a9, ha, (hS.re [0] [] rfl (sub_cons 0 rfl (sub_cons 1 rfl (sub_tail (sub_tail (sub_self)))))), H⟩
  obtain ⟨b2, b5, b6, ha, hS, H⟩ := hI
  rw [d1] at H
  (try dsimp only at H)
  refine EW.at ?_ a ha
  clear ha a
  refine EW.rg (by kernel_rfl) ?_
  refine EL.quick 3 [0, 1, 5, 6] [(0, sv a7 a3 a0), (1, sv a4 a5 a2), (5, sv b5 b6 b2), (6, ia (IntKind.i64.wrap (a1 + 1)))] (by kernel_rfl) ?_
  refine EL.done (by kernel_rfl) ?_
  refine EQ.to ?_
  refine EQ.keep [0, 1, 5, 6] [(0, sv a7 a3 a0), (1, sv a4 a5 a2), (5, sv b5 b6 b2), (6, ia (IntKind.i64.wrap (a1 + 1)))] (by kernel_rfl) ?_
  exact fun a ha => ⟨n, Nat.lt_succ_self n, b2, IntKind.i64.wrap (a1 + 1), b5, b6, ha, (hS.re [0] [] rfl (sub_cons 1 rfl (sub_cons 0 rfl (sub_tail (sub_tail (sub_self)))))), H⟩
 rw [if_neg b3] at H
 refine EW.exit (id := 0) (by kernel_rfl) ?_
 refine EQ.exitCode ?_
 refine EQ.exitTo ?_
 refine EQ.exitHere ?_
 refine EQ.code ?_
 refine EW.sq (by kernel_rfl) ?_
 refine EW.rg (by kernel_rfl) ?_
 refine EL.quick 2 [4] [(4, sv a8 a9 a6)] (by kernel_rfl) ?_
 refine EL.done (by kernel_rfl) ?_
 refine EQ.code ?_
 refine EW.ret (by kernel_rfl) ?_
 obtain rfl := Option.some.inj H
 exact EQ.leave (sv a8 a9 a6) (by kernel_rfl) ⟨_, rfl, a8, a9, rfl, (hS.re [0] [] rfl (sub_self))⟩

/-! ### confidant/confidantref21.Kinds: function 22 -/
def confidantref21_Kinds.l0 (K : Nat) (a0 : List S28) (a2 : List Int) : Nat → (List S28) → Int → Option (List S28)
 | 0, _, _ => none
 | n + 1, a6, a1 => if a1 < (a0.length : Int) then (lt (fun (b2 : List S28) => (confidantref21_Kinds.l0 K a0 a2 n b2 (IntKind.i64.wrap (a1 + 1)))) fun c2 => (if 0 ≤ a1 then (b1 (confidantref21_in.f K a2 ((a0.getD a1.toNat zS28).f2)) fun (c4 : Bool) => (if c4 = true then (lt ([(a0.getD a1.toNat zS28)] : List S28) fun b7 => (if (a6.length + b7.length) * 48 ≤ 140737488355328 then (lt (a6 ++ b7) fun b4 => (c2 b4)) else none)) else (c2 a6))) else none)) else (some a6)
def confidantref21_Kinds.f (K : Nat) (a0 : List S28) (a2 : List Int) : Option (List S28) := confidantref21_Kinds.l0 K a0 a2 K ([] : List S28) 0
set_option maxRecDepth 100000 in
theorem confidantref21_Kinds.calls {K : Nat} {a0 : List S28} {a2 : List Int} {a7 : Option Addr} {a3 : Nat} {a4 : Option Addr} {a5 : Nat} {c1 : List S28} {B w : World} {os : List Ass} {rs : List Ro} (H : confidantref21_Kinds.f K a0 a2 = some c1) (hS : St B w (os) (Ro.sl kS28 a7 a3 a0 :: Ro.sl (Kd.int .i64) a4 a5 a2 :: rs)) :
  Calls Tryd.prog 22 [sv a7 a3 a0, sv a4 a5 a2].toArray w (fun en w' => ∃ v, en = .returned v ∧ ∃ c5 : Option Addr, ∃ c6 : Nat, v = sv c5 c6 c1 ∧ St B w' (Ass.own 28 kS28 c5 c6 c1 :: os) (Ro.sl kS28 a7 a3 a0 :: Ro.sl (Kd.int .i64) a4 a5 a2 :: rs)) := by
 unfold confidantref21_Kinds.f at H
 refine calls_of_EW (args := [sv a7 a3 a0, sv a4 a5 a2]) (c := Cd22) 28 Tryd.func22 (by kernel_rfl) (by kernel_rfl) (by kernel_rfl) ?_
 refine EW.sq (by kernel_rfl) ?_
 refine EW.rg (by kernel_rfl) ?_
 refine EL.quick 1 [0, 1] [(0, sv a7 a3 a0), (1, sv a4 a5 a2)] (by kernel_rfl) ?_
 refine EL.done (by kernel_rfl) ?_
 refine EQ.code ?_
 refine EW.sq (by kernel_rfl) ?_
 refine EW.rg (by kernel_rfl) ?_
 refine EL.quick 1 [0, 1, 5] [(0, sv a7 a3 a0), (1, sv a4 a5 a2), (5, sv none 0 ([] : List S28))] (by kernel_rfl) ?_
 refine EL.done (by kernel_rfl) ?_
 refine EQ.code ?_
 refine EW.sq (by kernel_rfl) ?_
 refine EW.sq (by kernel_rfl) ?_
 refine EW.rg (by kernel_rfl) ?_
 refine EL.quick 1 [0, 1, 5, 6] [(0, sv a7 a3 a0), (1, sv a4 a5 a2), (5, sv none 0 ([] : List S28)), (6, ia 0)] (by kernel_rfl) ?_
 refine EL.done (by kernel_rfl) ?_
 refine EQ.code ?_
 refine EW.bl 0 (by kernel_rfl) ?_
 have hS := St.nilO hS 28 kS28
 refine EW.lp (fun n a w => ∃ a6 : List S28, ∃ a1 : Int, ∃ a8 : Option Addr, ∃ a9 : Nat, Sat 28 [(0, sv a7 a3 a0), (1, sv a4 a5 a2), (5, sv a8 a9 a6), (6, ia a1)] a ∧ St B w (Ass.own 28 kS28 a8 a9 a6 :: os) (Ro.sl kS28 a7 a3 a0 :: Ro.sl (Kd.int .i64) a4 a5 a2 :: rs) ∧ confidantref21_Kinds.l0 K a0 a2 n a6 a1 = some c1) K (by kernel_rfl) ?_ (fun n a w hI => ?_)
 ·refine EQ.keep [0, 1, 5, 6] [(0, sv a7 a3 a0), (1, sv a4 a5 a2), (5, sv none 0 ([] : List S28)), (6, ia 0)] (by kernel_rfl) ?_
  exact fun a ha => ⟨([] : List S28), 0, none, 0, ha, (hS.re [0] [] rfl (sub_cons 0 rfl (sub_cons 1 rfl (sub_tail (sub_tail (sub_self)))))), H⟩
 obtain ⟨a6, a1, a8, a9, ha, hS, H⟩ := hI
 obtain _ | n := n
 ·simp [confidantref21_Kinds.l0] at H
 rw [confidantref21_Kinds.l0.eq_2] at H
 refine EW.at ?_ a ha
 clear ha a
 refine EW.sq (by kernel_rfl) ?_
 refine EW.sq (by kernel_rfl) ?_
 refine EW.rg (by kernel_rfl) ?_
 refine EL.quick 4 [0, 1, 5, 6, 10] [(0, sv a7 a3 a0), (1, sv a4 a5 a2), (5, sv a8 a9 a6), (6, ia a1), (10, .bool (decide (a1 < (a0.length : Int))))] (by kernel_rfl) ?_
 refine EL.done (by kernel_rfl) ?_
 refine EQ.code ?_
 refine EW.cdP (a1 < (a0.length : Int)) (by kernel_rfl) (by kernel_rfl) (fun b3 => ?_) (fun b3 => ?_)
 ·rw [if_pos b3] at H
  refine EW.skip (by kernel_rfl) ?_
  refine EQ.code ?_
  obtain ⟨c2, d1, H⟩ := lt_out H
  refine EW.ct (fun a w => ∃ b2 : List S28, ∃ b5 : Option Addr, ∃ b6 : Nat, Sat 28 [(0, sv a7 a3 a0), (1, sv a4 a5 a2), (5, sv b5 b6 b2), (6, ia a1)] a ∧ St B w (Ass.own 28 kS28 b5 b6 b2 :: os) (Ro.sl (Kd.int .i64) a4 a5 a2 :: Ro.sl kS28 a7 a3 a0 :: rs) ∧ c2 b2 = some c1) (by kernel_rfl) ?_ (fun a w hI => ?_)
  ·refine EW.bl 1 (by kernel_rfl) ?_
   refine EW.sq (by kernel_rfl) ?_
   refine EW.rg (by kernel_rfl) ?_
   refine EL.quick 3 [0, 1, 5, 6, 13, 14, 15] [(0, sv a7 a3 a0), (1, sv a4 a5 a2), (5, sv a8 a9 a6), (6, ia a1), (13, sv a4 a5 a2), (14, sv a7 a3 a0), (15, ia a1)] (by kernel_rfl) ?_
   obtain ⟨c0, H⟩ := ite_in H
   obtain ⟨b0, rfl⟩ := St.rd_some hS (Rd.ro 0 rfl) c0 b3
   refine EL.of (EO.Y (YO.idx 22 7 b0 a0.length a3 .i64 a1 16 (by kernel_rfl) (by kernel_rfl) (by kernel_rfl) (by kernel_rfl) c0 b3) ?_)
   refine EL.quick 1 [0, 1, 5, 6, 13, 17] [(0, sv (some b0) a3 a0), (1, sv a4 a5 a2), (5, sv a8 a9 a6), (6, ia a1), (13, sv a4 a5 a2), (17, .pointer (some ((b0.add (a1.toNat * 7)).add 2)))] (by kernel_rfl) ?_
   refine EL.of (EO.Y (YO.loadEl hS kS28 b0 a3 a0 (Rd.ro 0 rfl) zS28 encS28 encS28_of a1 c0 b3 3 7 2 1 rfl (ia ((a0.getD a1.toNat zS28).f2)) 18 (by kernel_rfl) (by kernel_rfl) (by kernel_rfl) (by kernel_rfl)) ?_)
   have hS : St B _ (Ass.own 28 kS28 a8 a9 a6 :: os) (Ro.sl (Kd.int .i64) a4 a5 a2 :: Ro.sl kS28 (some b0) a3 a0 :: rs) := hS.re [] [] rfl (sub_cons 1 rfl (sub_cons 0 rfl (sub_tail (sub_tail (sub_self)))))
   obtain ⟨c4, d0, H⟩ := b1_out H
   have hq := confidantref21_in.calls d0 hS
   refine EL.of (EO.callD 49 [sv a4 a5 a2, ia ((a0.getD a1.toNat zS28).f2)] _ 19 (by kernel_rfl) (by kernel_rfl) (by kernel_rfl) hq ?_)
   rintro v w ⟨rfl, hS⟩
   refine EL.done (by kernel_rfl) ?_
   refine EQ.code ?_
   refine EW.cdP' (c4) (by kernel_rfl) (by kernel_rfl) (fun c3 => ?_) (fun c3 => ?_)
   ·rw [if_pos c3] at H
    refine EW.rg (by kernel_rfl) ?_
    refine EL.quick 3 [0, 1, 6, 20, 21, 22] [(0, sv (some b0) a3 a0), (1, sv a4 a5 a2), (6, ia a1), (20, sv a8 a9 a6), (21, sv (some b0) a3 a0), (22, ia a1)] (by kernel_rfl) ?_
    refine EL.of (EO.Y (YO.idx 22 7 b0 a0.length a3 .i64 a1 23 (by kernel_rfl) (by kernel_rfl) (by kernel_rfl) (by kernel_rfl) c0 b3) ?_)
    refine EL.of (EO.Y (YO.loadEl hS kS28 b0 a3 a0 (Rd.ro 1 rfl) zS28 encS28 encS28_of a1 c0 b3 28 7 0 7 rfl (ag (encS28 (a0.getD a1.toNat zS28))) 24 (by kernel_rfl) (by kernel_rfl) (by kernel_rfl) (by kernel_rfl)) ?_)
    obtain ⟨b7, c8, H⟩ := lt_out H
    refine EL.of (EO.lit hS kS28 28 22 1 #[(0, ag (encS28 (a0.getD a1.toNat zS28)))] [ia ((a0.getD a1.toNat zS28).f0), ia ((a0.getD a1.toNat zS28).f1), ia ((a0.getD a1.toNat zS28).f2), ia ((a0.getD a1.toNat zS28).f3), ib ((a0.getD a1.toNat zS28).f4), ib ((a0.getD a1.toNat zS28).f5), ib ((a0.getD a1.toNat zS28).f6)] b7 25 (by kernel_rfl) (by kernel_rfl) (by kernel_rfl) (fun _ => (by kernel_rfl)) (by rw [c8]; rfl) (by kernel_rfl) (fun w G hr => (by rw [c8]; exact ⟨[ia ((a0.getD a1.toNat zS28).f0), ia ((a0.getD a1.toNat zS28).f1), ia ((a0.getD a1.toNat zS28).f2), ia ((a0.getD a1.toNat zS28).f3), ib ((a0.getD a1.toNat zS28).f4), ib ((a0.getD a1.toNat zS28).f5), ib ((a0.getD a1.toNat zS28).f6)], [], rfl, ⟨[ia ((a0.getD a1.toNat zS28).f0)], [ia ((a0.getD a1.toNat zS28).f1), ia ((a0.getD a1.toNat zS28).f2), ia ((a0.getD a1.toNat zS28).f3), ib ((a0.getD a1.toNat zS28).f4), ib ((a0.getD a1.toNat zS28).f5), ib ((a0.getD a1.toNat zS28).f6)], rfl, rfl, ⟨[ia ((a0.getD a1.toNat zS28).f1)], [ia ((a0.getD a1.toNat zS28).f2), ia ((a0.getD a1.toNat zS28).f3), ib ((a0.getD a1.toNat zS28).f4), ib ((a0.getD a1.toNat zS28).f5), ib ((a0.getD a1.toNat zS28).f6)], rfl, rfl, ⟨[ia ((a0.getD a1.toNat zS28).f2)], [ia ((a0.getD a1.toNat zS28).f3), ib ((a0.getD a1.toNat zS28).f4), ib ((a0.getD a1.toNat zS28).f5), ib ((a0.getD a1.toNat zS28).f6)], rfl, rfl, ⟨[ia ((a0.getD a1.toNat zS28).f3)], [ib ((a0.getD a1.toNat zS28).f4), ib ((a0.getD a1.toNat zS28).f5), ib ((a0.getD a1.toNat zS28).f6)], rfl, rfl, ⟨[ib ((a0.getD a1.toNat zS28).f4)], [ib ((a0.getD a1.toNat zS28).f5), ib ((a0.getD a1.toNat zS28).f6)], rfl, rfl, ⟨[ib ((a0.getD a1.toNat zS28).f5)], [ib ((a0.getD a1.toNat zS28).f6)], rfl, rfl, ⟨[ib ((a0.getD a1.toNat zS28).f6)], [], rfl, rfl, rfl⟩⟩⟩⟩⟩⟩⟩, rfl⟩)) ?_)
    intro c7 w hS
    obtain ⟨c9, H⟩ := ite_in H
    obtain ⟨b4, d2, H⟩ := lt_out H
    refine EL.of (EO.append hS 22 22 28 48 1 kS28 a8 a9 a6 rfl (some ⟨c7, 0, none⟩) 1 b7 (Rd.own 0 28 rfl) b4 d2 (fun b8 b9 => Ass.own 28 kS28 (some ⟨c7, 0, none⟩) 1 b7 :: Ass.own 28 kS28 b8 b9 b4 :: os) 26 (by kernel_rfl) (by kernel_rfl) (by kernel_rfl) (by kernel_rfl) c9 (fun _ _ => rfl) ?_)
    intro b8 b9 w hS
    refine EL.quick 1 [0, 1, 5, 6] [(0, sv (some b0) a3 a0), (1, sv a4 a5 a2), (5, sv b8 b9 b4), (6, ia a1)] (by kernel_rfl) ?_
    refine EL.done (by kernel_rfl) ?_
    refine EQ.pop ?_
    refine EQ.to ?_
    refine EQ.keep [0, 1, 5, 6] [(0, sv (some b0) a3 a0), (1, sv a4 a5 a2), (5, sv b8 b9 b4), (6, ia a1)] (by kernel_rfl) ?_
    exact fun a ha => ⟨b4, b8, b9, ha, (hS.re [1] [1] rfl (sub_cons 0 rfl (sub_cons 1 rfl (sub_tail (sub_tail (sub_self)))))), H⟩
   rw [if_neg c3] at H
   refine EW.skip (by kernel_rfl) ?_
   refine EQ.pop ?_
   refine EQ.to ?_
   refine EQ.keep [0, 1, 5, 6] [(0, sv (some b0) a3 a0), (1, sv a4 a5 a2), (5, sv a8 a9 a6), (6, ia a1)] (by kernel_rfl) ?_
   exact fun a ha => ⟨a6, a8, a9, ha, (hS.re [0] [] rfl (sub_cons 0 rfl (sub_cons 1 rfl (sub_tail (sub_tail (sub_self)))))), H⟩
  obtain ⟨b2, b5, b6, ha, hS, H⟩ := hI
  rw [d1] at H
  (try dsimp only at H)
  refine EW.at ?_ a ha
  clear ha a
  refine EW.rg (by kernel_rfl) ?_
  refine EL.quick 3 [0, 1, 5, 6] [(0, sv a7 a3 a0), (1, sv a4 a5 a2), (5, sv b5 b6 b2), (6, ia (IntKind.i64.wrap (a1 + 1)))] (by kernel_rfl) ?_
  refine EL.done (by kernel_rfl) ?_
  refine EQ.to ?_
  refine EQ.keep [0, 1, 5, 6] [(0, sv a7 a3 a0), (1, sv a4 a5 a2), (5, sv b5 b6 b2), (6, ia (IntKind.i64.wrap (a1 + 1)))] (by kernel_rfl) ?_
  exact fun a ha => ⟨n, Nat.lt_succ_self n, b2, IntKind.i64.wrap (a1 + 1), b5, b6, ha, (hS.re [0] [] rfl (sub_cons 1 rfl (sub_cons 0 rfl (sub_tail (sub_tail (sub_self)))))), H⟩
 rw [if_neg b3] at H
 refine EW.exit (id := 0) (by kernel_rfl) ?_
 refine EQ.exitCode ?_
 refine EQ.exitTo ?_
 refine EQ.exitHere ?_
 refine EQ.code ?_
 refine EW.sq (by kernel_rfl) ?_
 refine EW.rg (by kernel_rfl) ?_
 refine EL.quick 2 [4] [(4, sv a8 a9 a6)] (by kernel_rfl) ?_
 refine EL.done (by kernel_rfl) ?_
 refine EQ.code ?_
 refine EW.ret (by kernel_rfl) ?_
 obtain rfl := Option.some.inj H
 exact EQ.leave (sv a8 a9 a6) (by kernel_rfl) ⟨_, rfl, a8, a9, rfl, (hS.re [0] [] rfl (sub_self))⟩

/-! ### confidant/confidantref5.dec: function 80 -/
def confidantref5_dec.f : Nat → Int → Option ByteArray
 | 0, _ => none
 | K + 1, a0 => if a0 < 10 then (if 0 ≤ a0 then (if a0 ≤ (IntKind.u64.wrap (a0 + 1)) then (if (IntKind.u64.wrap (a0 + 1)) ≤ ((⟨#[48, 49, 50, 51, 52, 53, 54, 55, 56, 57]⟩ : ByteArray).size : Int) then (some ((⟨#[48, 49, 50, 51, 52, 53, 54, 55, 56, 57]⟩ : ByteArray).extract a0.toNat ((IntKind.u64.wrap (a0 + 1)).toNat))) else none) else none) else none) else (b1 (confidantref5_dec.f K (IntKind.u64.wrap (Int.tdiv a0 10))) fun (a1 : ByteArray) => (b1 (confidantref5_dec.f K (Int.tmod a0 10)) fun (a2 : ByteArray) => (if a1.size + a2.size ≤ 9223372036854775807 then (some (a1 ++ a2)) else none)))
set_option maxRecDepth 100000 in
theorem confidantref5_dec.calls {K : Nat} {a0 : Int} {a4 : ByteArray} {B w : World} {os : List Ass} {rs : List Ro} (H : confidantref5_dec.f K a0 = some a4) (hS : St B w (os) (rs)) :
    Calls Tryd.prog 80 [ic a0].toArray w (fun en w' => ∃ v, en = .returned v ∧ v = .string a4 ∧ St B w' (os) (rs)) := by
  induction K generalizing a0 a4 B w os rs with
  | zero => exact absurd H (by unfold confidantref5_dec.f; simp)
  | succ K ih =>
    unfold confidantref5_dec.f at H
    refine calls_of_EW (args := [ic a0]) (c := Cd80) 16 Tryd.func80 (by kernel_rfl) (by kernel_rfl) (by kernel_rfl) ?_
    refine EW.sq (by kernel_rfl) ?_
    refine EW.rg (by kernel_rfl) ?_
    refine EL.quick 1 [0] [(0, ic a0)] (by kernel_rfl) ?_
    refine EL.done (by kernel_rfl) ?_
    refine EQ.code ?_
    refine EW.sq (by kernel_rfl) ?_
    refine EW.sq (by kernel_rfl) ?_
    refine EW.rg (by kernel_rfl) ?_
    refine EL.quick 2 [0, 4] [(0, ic a0), (4, .bool (decide (a0 < 10)))] (by kernel_rfl) ?_
    refine EL.done (by kernel_rfl) ?_
    refine EQ.code ?_
    refine EW.cdP (a0 < 10) (by kernel_rfl) (by kernel_rfl) (fun a3 => ?_) (fun a3 => ?_)
    · rw [if_pos a3] at H
      refine EW.sq (by kernel_rfl) ?_
      refine EW.rg (by kernel_rfl) ?_
      refine EL.quick 3 [5, 7] [(5, ic a0), (7, ic (IntKind.u64.wrap (a0 + 1)))] (by kernel_rfl) ?_
      obtain ⟨a8, H⟩ := ite_in H
      obtain ⟨a9, H⟩ := ite_in H
      obtain ⟨b0, H⟩ := ite_in H
      refine EL.of (EO.Y (YO.strSlice (⟨#[48, 49, 50, 51, 52, 53, 54, 55, 56, 57]⟩ : ByteArray) (some (ic a0)) (some (ic (IntKind.u64.wrap (a0 + 1)))) a0.toNat ((IntKind.u64.wrap (a0 + 1)).toNat) 9 8 (by kernel_rfl) (by kernel_rfl) (by kernel_rfl) (by kernel_rfl) ((Int.toNat_of_nonneg (by omega)).symm) ((Int.toNat_of_nonneg (by omega)).symm) (by omega) (by omega)) ?_)
      refine EL.quick 1 [2] [(2, .string ((⟨#[48, 49, 50, 51, 52, 53, 54, 55, 56, 57]⟩ : ByteArray).extract a0.toNat ((IntKind.u64.wrap (a0 + 1)).toNat)))] (by kernel_rfl) ?_
      refine EL.done (by kernel_rfl) ?_
      refine EQ.code ?_
      refine EW.ret (by kernel_rfl) ?_
      refine EQ.ret ?_
      obtain rfl := Option.some.inj H
      exact EQ.leave (.string ((⟨#[48, 49, 50, 51, 52, 53, 54, 55, 56, 57]⟩ : ByteArray).extract a0.toNat ((IntKind.u64.wrap (a0 + 1)).toNat))) (by kernel_rfl) ⟨_, rfl, rfl, (hS.re [] [] rfl (sub_self))⟩
    rw [if_neg a3] at H
    refine EW.skip (by kernel_rfl) ?_
    refine EQ.code ?_
    refine EW.sq (by kernel_rfl) ?_
    refine EW.rg (by kernel_rfl) ?_
    refine EL.quick 2 [0, 10] [(0, ic a0), (10, ic (IntKind.u64.wrap (Int.tdiv a0 10)))] (by kernel_rfl) ?_
    obtain ⟨a1, a6, H⟩ := b1_out H
    have hq := ih a6 hS
    refine EL.of (EO.callD 80 [ic (IntKind.u64.wrap (Int.tdiv a0 10))] _ 11 (by kernel_rfl) (by kernel_rfl) (by kernel_rfl) hq ?_)
    rintro v w ⟨rfl, hS⟩
    refine EL.quick 2 [11, 13] [(11, .string a1), (13, ic (Int.tmod a0 10))] (by kernel_rfl) ?_
    obtain ⟨a2, a7, H⟩ := b1_out H
    have hq := ih a7 hS
    refine EL.of (EO.callD 80 [ic (Int.tmod a0 10)] _ 14 (by kernel_rfl) (by kernel_rfl) (by kernel_rfl) hq ?_)
    rintro v w ⟨rfl, hS⟩
    obtain ⟨a5, H⟩ := ite_in H
    refine EL.of (EO.Y (YO.strCat a1 a2 15 (by kernel_rfl) (by kernel_rfl) (by kernel_rfl) a5) ?_)
    refine EL.quick 1 [2] [(2, .string (a1 ++ a2))] (by kernel_rfl) ?_
    refine EL.done (by kernel_rfl) ?_
    refine EQ.code ?_
    refine EW.ret (by kernel_rfl) ?_
    obtain rfl := Option.some.inj H
    exact EQ.leave (.string (a1 ++ a2)) (by kernel_rfl) ⟨_, rfl, rfl, (hS.re [] [] rfl (sub_self))⟩

/-! ### confidant/confidantref5.Decimal: function 55 -/
def confidantref5_Decimal.f (K : Nat) (a0 : Int) : Option ByteArray := if a0 < 0 then (b1 (confidantref5_dec.f K (IntKind.u64.wrap ((IntKind.u64.wrap (IntKind.i64.wrap (0 - (IntKind.i64.wrap (a0 + 1))))) + 1))) fun (a1 : ByteArray) => (if (⟨#[45]⟩ : ByteArray).size + a1.size ≤ 9223372036854775807 then (some ((⟨#[45]⟩ : ByteArray) ++ a1)) else none)) else (b1 (confidantref5_dec.f K (IntKind.u64.wrap a0)) fun (a2 : ByteArray) => (some a2))
set_option maxRecDepth 100000 in
theorem confidantref5_Decimal.calls {K : Nat} {a0 : Int} {a4 : ByteArray} {B w : World} {os : List Ass} {rs : List Ro} (H : confidantref5_Decimal.f K a0 = some a4) (hS : St B w (os) (rs)) :
  Calls Tryd.prog 55 [ia a0].toArray w (fun en w' => ∃ v, en = .returned v ∧ v = .string a4 ∧ St B w' (os) (rs)) := by
 unfold confidantref5_Decimal.f at H
 refine calls_of_EW (args := [ia a0]) (c := Cd55) 15 Tryd.func55 (by kernel_rfl) (by kernel_rfl) (by kernel_rfl) ?_
 refine EW.sq (by kernel_rfl) ?_
 refine EW.rg (by kernel_rfl) ?_
 refine EL.quick 1 [0] [(0, ia a0)] (by kernel_rfl) ?_
 refine EL.done (by kernel_rfl) ?_
 refine EQ.code ?_
 refine EW.sq (by kernel_rfl) ?_
 refine EW.sq (by kernel_rfl) ?_
 refine EW.rg (by kernel_rfl) ?_
 refine EL.quick 2 [0, 4] [(0, ia a0), (4, .bool (decide (a0 < 0)))] (by kernel_rfl) ?_
 refine EL.done (by kernel_rfl) ?_
 refine EQ.code ?_
 refine EW.cdP (a0 < 0) (by kernel_rfl) (by kernel_rfl) (fun a3 => ?_) (fun a3 => ?_)
 ·rw [if_pos a3] at H
  refine EW.sq (by kernel_rfl) ?_
  refine EW.rg (by kernel_rfl) ?_
  refine EL.quick 5 [9] [(9, ic (IntKind.u64.wrap ((IntKind.u64.wrap (IntKind.i64.wrap (0 - (IntKind.i64.wrap (a0 + 1))))) + 1)))] (by kernel_rfl) ?_
  obtain ⟨a1, a6, H⟩ := b1_out H
  have hq := confidantref5_dec.calls a6 hS
  refine EL.of (EO.callD 80 [ic (IntKind.u64.wrap ((IntKind.u64.wrap (IntKind.i64.wrap (0 - (IntKind.i64.wrap (a0 + 1))))) + 1))] _ 10 (by kernel_rfl) (by kernel_rfl) (by kernel_rfl) hq ?_)
  rintro v w ⟨rfl, hS⟩
  obtain ⟨a5, H⟩ := ite_in H
  refine EL.of (EO.Y (YO.strCat (⟨#[45]⟩ : ByteArray) a1 11 (by kernel_rfl) (by kernel_rfl) (by kernel_rfl) a5) ?_)
  refine EL.quick 1 [2] [(2, .string ((⟨#[45]⟩ : ByteArray) ++ a1))] (by kernel_rfl) ?_
  refine EL.done (by kernel_rfl) ?_
  refine EQ.code ?_
  refine EW.ret (by kernel_rfl) ?_
  refine EQ.ret ?_
  obtain rfl := Option.some.inj H
  exact EQ.leave (.string ((⟨#[45]⟩ : ByteArray) ++ a1)) (by kernel_rfl) ⟨_, rfl, rfl, (hS.re [] [] rfl (sub_self))⟩
 rw [if_neg a3] at H
 refine EW.skip (by kernel_rfl) ?_
 refine EQ.code ?_
 refine EW.sq (by kernel_rfl) ?_
 refine EW.rg (by kernel_rfl) ?_
 refine EL.quick 2 [13] [(13, ic (IntKind.u64.wrap a0))] (by kernel_rfl) ?_
 obtain ⟨a2, a7, H⟩ := b1_out H
 have hq := confidantref5_dec.calls a7 hS
 refine EL.of (EO.callD 80 [ic (IntKind.u64.wrap a0)] _ 14 (by kernel_rfl) (by kernel_rfl) (by kernel_rfl) hq ?_)
 rintro v w ⟨rfl, hS⟩
 refine EL.quick 1 [2] [(2, .string a2)] (by kernel_rfl) ?_
 refine EL.done (by kernel_rfl) ?_
 refine EQ.code ?_
 refine EW.ret (by kernel_rfl) ?_
 obtain rfl := Option.some.inj H
 exact EQ.leave (.string a2) (by kernel_rfl) ⟨_, rfl, rfl, (hS.re [] [] rfl (sub_self))⟩

end Go.Proofs.YtocdpimpkifdmaaDoor.G
