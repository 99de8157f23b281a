import Derived.Test.YtocdpimpkifdmaaDoorProg
import Derived.Test.YtocdpimpkifdmaaDoorFwShort
import Derived.Test.YtocdpimpkifdmaaDoorFwOpen
import Derived.Test.YtocdpimpkifdmaaDoorDoor
import Derived.Test.YtocdpimpkifdmaaDoorG0
import Derived.Test.YtocdpimpkifdmaaDoorG1
import Derived.Test.YtocdpimpkifdmaaDoorG3
import Derived.Test.YtocdpimpkifdmaaDoorG5
namespace Go.Proofs.YtocdpimpkifdmaaDoor.G
open Go Go.Fw Go.RowKit Go.Proofs
set_option linter.unusedVariables false
set_option linter.unusedSimpArgs false

/-! ### confidant/confidantlaw23.TraceTexts: function 6 -/
def confidantlaw23_TraceTexts.f (K : Nat) (a10 : Int) (a11 : Int) (a12 : Int) (a13 : Int) (a14 : Int) (a15 : Int) (a16 : Int) (a17 : Int) (a18 : Int) : Option Bool := b1 (confidantlaw23_known.f K) fun (t87 : Bool) => (if t87 = true then (lt ([(⟨a10, a11, a12, a13⟩ : S50), (⟨a14, a15, a16, a17⟩ : S50)] : List S50) fun l97 => (b1 (confidantlaw23_some.f K l97) fun (t98 : List S28) => (if (0 : Int) < (t98.length : Int) then (if (1 : Int) < (t98.length : Int) then (b1 (trace_Text.f K ({(t98.getD (0 : Int).toNat zS28) with f5 := a18} : S28)) fun (c0 : ByteArray) => (b1 (trace_Text.f K (t98.getD (1 : Int).toNat zS28)) fun (c1 : ByteArray) => (if ((c0.toList == c1.toList) == ((((t98.getD (0 : Int).toNat zS28).f0) == ((t98.getD (1 : Int).toNat zS28).f0)) && ((((t98.getD (0 : Int).toNat zS28).f1) == ((t98.getD (1 : Int).toNat zS28).f1)) && ((((t98.getD (0 : Int).toNat zS28).f2) == ((t98.getD (1 : Int).toNat zS28).f2)) && ((((t98.getD (0 : Int).toNat zS28).f3) == ((t98.getD (1 : Int).toNat zS28).f3)) && ((((t98.getD (0 : Int).toNat zS28).f4) == ((t98.getD (1 : Int).toNat zS28).f4)) && ((a18 == ((t98.getD (1 : Int).toNat zS28).f5)) && ((((t98.getD (0 : Int).toNat zS28).f6) == ((t98.getD (1 : Int).toNat zS28).f6)) && true)))))))) = true then (lt ([({(t98.getD (0 : Int).toNat zS28) with f5 := a18} : S28)] : List S28) fun a7 => (b1 (trace_Put.f K a7) fun (a1 : List Int) => (lt ([(t98.getD (1 : Int).toNat zS28)] : List S28) fun a6 => (b1 (trace_Put.f K a6) fun (a2 : List Int) => (if (((bStr a1).toList == (bStr a2).toList) == ((((t98.getD (0 : Int).toNat zS28).f0) == ((t98.getD (1 : Int).toNat zS28).f0)) && ((((t98.getD (0 : Int).toNat zS28).f1) == ((t98.getD (1 : Int).toNat zS28).f1)) && ((((t98.getD (0 : Int).toNat zS28).f2) == ((t98.getD (1 : Int).toNat zS28).f2)) && ((((t98.getD (0 : Int).toNat zS28).f3) == ((t98.getD (1 : Int).toNat zS28).f3)) && ((((t98.getD (0 : Int).toNat zS28).f4) == ((t98.getD (1 : Int).toNat zS28).f4)) && ((a18 == ((t98.getD (1 : Int).toNat zS28).f5)) && ((((t98.getD (0 : Int).toNat zS28).f6) == ((t98.getD (1 : Int).toNat zS28).f6)) && true)))))))) = true then (b1 (trace_Text.f K ({(t98.getD (0 : Int).toNat zS28) with f5 := a18} : S28)) fun (a8 : ByteArray) => (some (decide ((a8.size : Int) > 14)))) else (some false)))))) else (some false)))) else none) else none))) else (some false))
set_option maxHeartbeats 4000000 in
set_option maxRecDepth 100000 in
theorem confidantlaw23_TraceTexts.calls {K : Nat} {a10 : Int} {a11 : Int} {a12 : Int} {a13 : Int} {a14 : Int} {a15 : Int} {a16 : Int} {a17 : Int} {a18 : Int} {x75 : Bool} {B w : World} {os : List Ass} {rs : List Ro} (H : confidantlaw23_TraceTexts.f K a10 a11 a12 a13 a14 a15 a16 a17 a18 = some x75) (hS : St B w (os) (rs)) (gB : Glob B) :
  Calls Tryd.prog 6 [ag [ig a10, ig a11, ig a12, ig a13], ag [ig a14, ig a15, ig a16, ig a17], ib a18].toArray w (fun en w' => ∃ v, en = .returned v ∧ v = .bool (x75) ∧ St B w' (os) (rs)) := by
 unfold confidantlaw23_TraceTexts.f at H
 refine calls_of_EW (args := [ag [ig a10, ig a11, ig a12, ig a13], ag [ig a14, ig a15, ig a16, ig a17], ib a18]) (c := Cd6) 54 Tryd.func6 (by kernel_rfl) (by kernel_rfl) (by kernel_rfl) ?_
 refine EW.sq (by kernel_rfl) ?_
 refine EW.rg (by kernel_rfl) ?_
 refine EL.of (EO.box hS 50 (ag [ig a10, ig a11, ig a12, ig a13]) [ig a10, ig a11, ig a12, ig a13] 3 (by kernel_rfl) (by kernel_rfl) (by kernel_rfl) (by first | rfl | kernel_rfl) ?_)
 intro g78 w hS
 refine EL.of (EO.box hS 50 (ag [ig a14, ig a15, ig a16, ig a17]) [ig a14, ig a15, ig a16, ig a17] 4 (by kernel_rfl) (by kernel_rfl) (by kernel_rfl) (by first | rfl | kernel_rfl) ?_)
 intro g79 w hS
 refine EL.quick 1 [2, 3, 4] [(2, ib a18), (3, pt g78 0), (4, pt g79 0)] (by kernel_rfl) ?_
 refine EL.done (by kernel_rfl) ?_
 refine EQ.code ?_
 refine EW.sq (by kernel_rfl) ?_
 refine EW.sq (by kernel_rfl) ?_
 refine EW.rg (by kernel_rfl) ?_
 obtain ⟨t87, hc88, H⟩ := b1_out H
 have hq := confidantlaw23_known.calls hc88 hS gB
 refine EL.of (EO.callD 11 [] _ 10 (by kernel_rfl) (by kernel_rfl) (by kernel_rfl) hq ?_)
 rintro v w ⟨rfl, hS⟩
 refine EL.quick 1 [2, 3, 4, 11] [(2, ib a18), (3, pt g78 0), (4, pt g79 0), (11, .bool (!(t87)))] (by kernel_rfl) ?_
 refine EL.done (by kernel_rfl) ?_
 refine EQ.code ?_
 refine EW.cdQ (b := !(t87)) (t87 = true) (false) (by kernel_rfl) (by kernel_rfl) ⟨fun h => (by rw [h] <;> rfl), fun h => (by rw [Bool.eq_false_iff.2 h] <;> rfl)⟩ (fun h89 => ?_) (fun h89 => ?_)
 ·rw [if_pos h89] at H
  refine EW.skip (by kernel_rfl) ?_
  refine EQ.code ?_
  refine EW.sq (by kernel_rfl) ?_
  refine EW.rg (by kernel_rfl) ?_
  refine EL.of (EO.Y (YO.loadBox hS 1 rfl 50 0 4 (ag [ig a10, ig a11, ig a12, ig a13]) 12 (by kernel_rfl) (by kernel_rfl) (by kernel_rfl) (by kernel_rfl)) ?_)
  refine EL.of (EO.Y (YO.loadBox hS 0 rfl 50 0 4 (ag [ig a14, ig a15, ig a16, ig a17]) 13 (by kernel_rfl) (by kernel_rfl) (by kernel_rfl) (by kernel_rfl)) ?_)
  obtain ⟨l97, hl97, H⟩ := lt_out H
  refine EL.of (EO.lit hS kS50 50 23 2 #[(0, ag [ig a10, ig a11, ig a12, ig a13]), (1, ag [ig a14, ig a15, ig a16, ig a17])] [ig a10, ig a11, ig a12, ig a13, ig a14, ig a15, ig a16, ig a17] l97 14 (by kernel_rfl) (by kernel_rfl) (by kernel_rfl) (fun _ => (by kernel_rfl)) (by rw [hl97]; rfl) (by kernel_rfl) (fun w G hr => (by rw [hl97]; exact ⟨[ig a10, ig a11, ig a12, ig a13], [ig a14, ig a15, ig a16, ig a17], rfl, ⟨[ig a10], [ig a11, ig a12, ig a13], rfl, rfl, ⟨[ig a11], [ig a12, ig a13], rfl, rfl, ⟨[ig a12], [ig a13], rfl, rfl, ⟨[ig a13], [], rfl, rfl, rfl⟩⟩⟩⟩, ⟨[ig a14, ig a15, ig a16, ig a17], [], rfl, ⟨[ig a14], [ig a15, ig a16, ig a17], rfl, rfl, ⟨[ig a15], [ig a16, ig a17], rfl, rfl, ⟨[ig a16], [ig a17], rfl, rfl, ⟨[ig a17], [], rfl, rfl, rfl⟩⟩⟩⟩, rfl⟩⟩)) ?_)
  intro g96 w hS
  have hS := St.fr hS 0 rfl
  have hS : St B _ (Ass.box 50 g79 [ig a14, ig a15, ig a16, ig a17] :: Ass.box 50 g78 [ig a10, ig a11, ig a12, ig a13] :: os) (Ro.sl kS50 (some ⟨g96, 0, none⟩) 2 l97 :: rs) := hS.re [] [] rfl (sub_cons 0 rfl (sub_tail (sub_self)))
  obtain ⟨t98, m4, H⟩ := b1_out H
  have hq := confidantlaw23_some.calls m4 hS
  refine EL.of (EO.callD 12 [sv (some ⟨g96, 0, none⟩) 2 l97] _ 15 (by kernel_rfl) (by kernel_rfl) (by kernel_rfl) hq ?_)
  rintro v w ⟨A99, a3, rfl, hS⟩
  refine EL.quick 1 [2, 7] [(2, ib a18), (7, sv A99 a3 t98)] (by kernel_rfl) ?_
  refine EL.done (by kernel_rfl) ?_
  refine EQ.code ?_
  refine EW.sq (by kernel_rfl) ?_
  obtain ⟨g4, H⟩ := ite_in H
  obtain ⟨a4, rfl⟩ := St.rd_some hS (Rd.own 0 28 rfl) (by decide) g4
  obtain ⟨m3, H⟩ := ite_in H
  refine EW.mt (fun a w => ∃ a5 : Nat, ∃ a0 : Nat, Sat 54 [(2, ib a18), (8, pt a0 0), (9, pt a5 0)] a ∧ St B w (Ass.box 28 a5 (encS28 (t98.getD (1 : Int).toNat zS28)) :: Ass.box 28 a0 (encS28 (t98.getD (0 : Int).toNat zS28)) :: Ass.own 28 kS28 (some a4) a3 t98 :: Ass.box 50 g79 [ig a14, ig a15, ig a16, ig a17] :: Ass.box 50 g78 [ig a10, ig a11, ig a12, ig a13] :: os) (Ro.sl kS50 (some ⟨g96, 0, none⟩) 2 l97 :: rs)) (by kernel_rfl) ?_ (fun a w hI => ?_)
  ·have hS := hS.drew
   refine EW.dr (B := B) [Ass.own 28 kS28 (some a4) a3 t98, Ass.box 50 g79 [ig a14, ig a15, ig a16, ig a17], Ass.box 50 g78 [ig a10, ig a11, ig a12, ig a13]] [Ro.sl kS50 (some ⟨g96, 0, none⟩) 2 l97] (by kernel_rfl) (by kernel_rfl) ?_
   have hN : Region.noSelect Cd6.r.r.r.l.ops = true := (by kernel_rfl)
   have hF : freeAll Cd6.r.r.r.l.ops = true := (by kernel_rfl)
   have hC : Core B [Ass.own 28 kS28 (some a4) a3 t98, Ass.box 50 g79 [ig a14, ig a15, ig a16, ig a17], Ass.box 50 g78 [ig a10, ig a11, ig a12, ig a13]] [Ro.sl kS50 (some ⟨g96, 0, none⟩) 2 l97] _ := ⟨_, _, hS⟩
   refine ED.quick hN hF hC [0, 3] [2, 16, 19] 8 [(2, ib a18), (16, sv (some a4) a3 t98), (19, sv (some a4) a3 t98)] (bm 10 9) (by kernel_rfl) (by kernel_rfl) ?_
   refine ED.Y hN hF hC 1 7 (bm 10 11) (by kernel_rfl) (by kernel_rfl) rfl (fun _ _ _ hS => YO.idx 22 7 a4 t98.length a3 .i64 0 17 (by kernel_rfl) (by kernel_rfl) (by kernel_rfl) (by kernel_rfl) (by decide) g4) ?_
   refine ED.Y hN hF hC 2 6 (bm 10 15) (by kernel_rfl) (by kernel_rfl) rfl (fun _ _ _ hS => YO.loadEl hS kS28 a4 a3 t98 (Rd.own 0 28 rfl) zS28 encS28 encS28_of 0 (by decide) g4 28 7 0 7 rfl (ag (encS28 (t98.getD (0 : Int).toNat zS28))) 18 (by kernel_rfl) (by kernel_rfl) (by kernel_rfl) (by kernel_rfl)) ?_
   refine ED.Y hN hF hC 4 5 (bm 10 31) (by kernel_rfl) (by kernel_rfl) rfl (fun _ _ _ hS => YO.idx 22 7 a4 t98.length a3 .i64 1 20 (by kernel_rfl) (by kernel_rfl) (by kernel_rfl) (by kernel_rfl) (by decide) m3) ?_
   refine ED.Y hN hF hC 5 4 (bm 10 63) (by kernel_rfl) (by kernel_rfl) rfl (fun _ _ _ hS => YO.loadEl hS kS28 a4 a3 t98 (Rd.own 0 28 rfl) zS28 encS28 encS28_of 1 (by decide) m3 28 7 0 7 rfl (ag (encS28 (t98.getD (1 : Int).toNat zS28))) 21 (by kernel_rfl) (by kernel_rfl) (by kernel_rfl) (by kernel_rfl)) ?_
   refine ED.two 6 7 3 (by kernel_rfl) (by kernel_rfl) ?_ ?_
   ·refine EO.alloc hS 28 (ag (encS28 zS28)) (encS28 zS28) 8 (by kernel_rfl) (by kernel_rfl) (by kernel_rfl) (by kernel_rfl) (by first | rfl | kernel_rfl) ?_
    intro e9 w hS
    have hC := hC.again ⟨_, _, hS.re [3, 3, 3] [] rfl sub_self⟩
    refine ⟨hC, ?_⟩
    refine ED.at' (bm 10 127) (by kernel_rfl) ?_
    refine ED.one 7 2 (bm 10 255) (by kernel_rfl) (by kernel_rfl) (by kernel_rfl) (EO.alloc hS 28 (ag (encS28 zS28)) (encS28 zS28) 9 (by kernel_rfl) (by kernel_rfl) (by kernel_rfl) (by kernel_rfl) (by first | rfl | kernel_rfl) ?_)
    intro f7 w hS
    have hC := hC.again ⟨_, _, hS.re [4, 4, 4] [] rfl sub_self⟩
    refine ⟨hC, ?_⟩
    refine ED.one 8 1 (bm 10 511) (by kernel_rfl) (by kernel_rfl) (by kernel_rfl) (EO.storeBox (os' := Ass.box 28 f7 (encS28 zS28) :: Ass.box 28 e9 (encS28 (t98.getD (0 : Int).toNat zS28)) :: Ass.own 28 kS28 (some a4) a3 t98 :: Ass.box 50 g79 [ig a14, ig a15, ig a16, ig a17] :: Ass.box 50 g78 [ig a10, ig a11, ig a12, ig a13] :: os) hS 1 rfl 28 0 (ag (encS28 (t98.getD (0 : Int).toNat zS28))) (encS28 (t98.getD (0 : Int).toNat zS28)) (by kernel_rfl) (by kernel_rfl) (by kernel_rfl) (by kernel_rfl) (by kernel_rfl) (by kernel_rfl) rfl rfl ?_)
    intro w hS
    have hC := hC.again ⟨_, _, hS.re [4, 4, 4] [] rfl sub_self⟩
    refine ⟨hC, ?_⟩
    refine ED.one 9 0 (bm 10 1023) (by kernel_rfl) (by kernel_rfl) (by kernel_rfl) (EO.storeBox (os' := Ass.box 28 f7 (encS28 (t98.getD (1 : Int).toNat zS28)) :: Ass.box 28 e9 (encS28 (t98.getD (0 : Int).toNat zS28)) :: Ass.own 28 kS28 (some a4) a3 t98 :: Ass.box 50 g79 [ig a14, ig a15, ig a16, ig a17] :: Ass.box 50 g78 [ig a10, ig a11, ig a12, ig a13] :: os) hS 0 rfl 28 0 (ag (encS28 (t98.getD (1 : Int).toNat zS28))) (encS28 (t98.getD (1 : Int).toNat zS28)) (by kernel_rfl) (by kernel_rfl) (by kernel_rfl) (by kernel_rfl) (by kernel_rfl) (by kernel_rfl) rfl rfl ?_)
    intro w hS
    have hC := hC.again ⟨_, _, hS.re [4, 4, 4] [] rfl sub_self⟩
    refine ⟨hC, ?_⟩
    refine ED.done (by kernel_rfl) ?_
    refine EQ.to ?_
    refine EQ.keep [2, 8, 9] [(2, ib a18), (8, pt e9 0), (9, pt f7 0)] (by kernel_rfl) ?_
    exact fun a ha => ⟨f7, e9, ha, (hS.re [4, 4, 4, 4, 4] [] rfl (sub_cons 0 rfl (sub_tail (sub_self))))⟩
   ·refine EO.alloc hS 28 (ag (encS28 zS28)) (encS28 zS28) 9 (by kernel_rfl) (by kernel_rfl) (by kernel_rfl) (by kernel_rfl) (by first | rfl | kernel_rfl) ?_
    intro f8 w hS
    have hC := hC.again ⟨_, _, hS.re [3, 3, 3] [] rfl sub_self⟩
    refine ⟨hC, ?_⟩
    refine ED.at' (bm 10 191) (by kernel_rfl) ?_
    refine ED.one 6 2 (bm 10 255) (by kernel_rfl) (by kernel_rfl) (by kernel_rfl) (EO.alloc hS 28 (ag (encS28 zS28)) (encS28 zS28) 8 (by kernel_rfl) (by kernel_rfl) (by kernel_rfl) (by kernel_rfl) (by first | rfl | kernel_rfl) ?_)
    intro f9 w hS
    have hC := hC.again ⟨_, _, hS.re [4, 4, 4] [] rfl sub_self⟩
    refine ⟨hC, ?_⟩
    refine ED.one 8 1 (bm 10 511) (by kernel_rfl) (by kernel_rfl) (by kernel_rfl) (EO.storeBox (os' := Ass.box 28 f9 (encS28 (t98.getD (0 : Int).toNat zS28)) :: Ass.box 28 f8 (encS28 zS28) :: Ass.own 28 kS28 (some a4) a3 t98 :: Ass.box 50 g79 [ig a14, ig a15, ig a16, ig a17] :: Ass.box 50 g78 [ig a10, ig a11, ig a12, ig a13] :: os) hS 0 rfl 28 0 (ag (encS28 (t98.getD (0 : Int).toNat zS28))) (encS28 (t98.getD (0 : Int).toNat zS28)) (by kernel_rfl) (by kernel_rfl) (by kernel_rfl) (by kernel_rfl) (by kernel_rfl) (by kernel_rfl) rfl rfl ?_)
    intro w hS
    have hC := hC.again ⟨_, _, hS.re [4, 4, 4] [] rfl sub_self⟩
    refine ⟨hC, ?_⟩
    refine ED.one 9 0 (bm 10 1023) (by kernel_rfl) (by kernel_rfl) (by kernel_rfl) (EO.storeBox (os' := Ass.box 28 f9 (encS28 (t98.getD (0 : Int).toNat zS28)) :: Ass.box 28 f8 (encS28 (t98.getD (1 : Int).toNat zS28)) :: Ass.own 28 kS28 (some a4) a3 t98 :: Ass.box 50 g79 [ig a14, ig a15, ig a16, ig a17] :: Ass.box 50 g78 [ig a10, ig a11, ig a12, ig a13] :: os) hS 1 rfl 28 0 (ag (encS28 (t98.getD (1 : Int).toNat zS28))) (encS28 (t98.getD (1 : Int).toNat zS28)) (by kernel_rfl) (by kernel_rfl) (by kernel_rfl) (by kernel_rfl) (by kernel_rfl) (by kernel_rfl) rfl rfl ?_)
    intro w hS
    have hC := hC.again ⟨_, _, hS.re [4, 4, 4] [] rfl sub_self⟩
    refine ⟨hC, ?_⟩
    refine ED.done (by kernel_rfl) ?_
    refine EQ.to ?_
    refine EQ.keep [2, 8, 9] [(2, ib a18), (8, pt f9 0), (9, pt f8 0)] (by kernel_rfl) ?_
    exact fun a ha => ⟨f8, f9, ha, (hS.re [4, 4, 4, 3, 4] [] rfl (sub_cons 0 rfl (sub_tail (sub_self))))⟩
  ·obtain ⟨a5, a0, ha, hS⟩ := hI
   refine EQ.at ?_ a ha
   clear ha a
   refine EQ.code ?_
   refine EW.sq (by kernel_rfl) ?_
   refine EW.rg (by kernel_rfl) ?_
   refine EL.quick 2 [8, 9, 22, 23] [(8, pt a0 0), (9, pt a5 0), (22, ib a18), (23, pt a0 5)] (by kernel_rfl) ?_
   refine EL.of (EO.storeBox (os' := Ass.box 28 a5 (encS28 (t98.getD (1 : Int).toNat zS28)) :: Ass.box 28 a0 (encS28 {(t98.getD (0 : Int).toNat zS28) with f5 := a18}) :: Ass.own 28 kS28 (some a4) a3 t98 :: Ass.box 50 g79 [ig a14, ig a15, ig a16, ig a17] :: Ass.box 50 g78 [ig a10, ig a11, ig a12, ig a13] :: os) hS 1 rfl 21 5 (ib a18) (encS28 {(t98.getD (0 : Int).toNat zS28) with f5 := a18}) (by kernel_rfl) (by kernel_rfl) (by kernel_rfl) (by kernel_rfl) (by kernel_rfl) (by kernel_rfl) rfl rfl ?_)
   intro w hS
   refine EL.done (by kernel_rfl) ?_
   refine EQ.code ?_
   refine EW.sq (by kernel_rfl) ?_
   obtain ⟨c0, g5, H⟩ := b1_out H
   obtain ⟨c1, g6, H⟩ := b1_out H
   by_cases d6 : ((c0.toList == c1.toList) == ((((t98.getD (0 : Int).toNat zS28).f0) == ((t98.getD (1 : Int).toNat zS28).f0)) && ((((t98.getD (0 : Int).toNat zS28).f1) == ((t98.getD (1 : Int).toNat zS28).f1)) && ((((t98.getD (0 : Int).toNat zS28).f2) == ((t98.getD (1 : Int).toNat zS28).f2)) && ((((t98.getD (0 : Int).toNat zS28).f3) == ((t98.getD (1 : Int).toNat zS28).f3)) && ((((t98.getD (0 : Int).toNat zS28).f4) == ((t98.getD (1 : Int).toNat zS28).f4)) && ((a18 == ((t98.getD (1 : Int).toNat zS28).f5)) && ((((t98.getD (0 : Int).toNat zS28).f6) == ((t98.getD (1 : Int).toNat zS28).f6)) && true)))))))) = true
   ·rw [if_pos d6] at H
    obtain ⟨a7, d0, H⟩ := lt_out H
    obtain ⟨a1, d1, H⟩ := b1_out H
    obtain ⟨a6, b0, H⟩ := lt_out H
    obtain ⟨a2, b2, H⟩ := b1_out H
    by_cases a9 : (((bStr a1).toList == (bStr a2).toList) == ((((t98.getD (0 : Int).toNat zS28).f0) == ((t98.getD (1 : Int).toNat zS28).f0)) && ((((t98.getD (0 : Int).toNat zS28).f1) == ((t98.getD (1 : Int).toNat zS28).f1)) && ((((t98.getD (0 : Int).toNat zS28).f2) == ((t98.getD (1 : Int).toNat zS28).f2)) && ((((t98.getD (0 : Int).toNat zS28).f3) == ((t98.getD (1 : Int).toNat zS28).f3)) && ((((t98.getD (0 : Int).toNat zS28).f4) == ((t98.getD (1 : Int).toNat zS28).f4)) && ((a18 == ((t98.getD (1 : Int).toNat zS28).f5)) && ((((t98.getD (0 : Int).toNat zS28).f6) == ((t98.getD (1 : Int).toNat zS28).f6)) && true)))))))) = true
    ·rw [if_pos a9] at H
     obtain ⟨a8, b7, H⟩ := b1_out H
     refine EW.mt (fun a w => ∃ g7 : Option Addr, ∃ i9 : Nat, ∃ g8 : Option Addr, ∃ j0 : Nat, Sat 54 [(6, .bool (decide ((a8.size : Int) > 14)))] a ∧ St B w (Ass.own 5 (Kd.int .u8) g7 i9 a2 :: Ass.own 5 (Kd.int .u8) g8 j0 a1 :: Ass.box 28 a5 (encS28 (t98.getD (1 : Int).toNat zS28)) :: Ass.box 28 a0 (encS28 {(t98.getD (0 : Int).toNat zS28) with f5 := a18}) :: Ass.own 28 kS28 (some a4) a3 t98 :: Ass.box 50 g79 [ig a14, ig a15, ig a16, ig a17] :: Ass.box 50 g78 [ig a10, ig a11, ig a12, ig a13] :: os) (Ro.sl kS50 (some ⟨g96, 0, none⟩) 2 l97 :: rs)) (by kernel_rfl) ?_ (fun a w hI => ?_)
     ·have hS := hS.drew
      refine EW.dr (B := B) [Ass.box 28 a5 (encS28 (t98.getD (1 : Int).toNat zS28)), Ass.box 28 a0 (encS28 {(t98.getD (0 : Int).toNat zS28) with f5 := a18}), Ass.own 28 kS28 (some a4) a3 t98, Ass.box 50 g79 [ig a14, ig a15, ig a16, ig a17], Ass.box 50 g78 [ig a10, ig a11, ig a12, ig a13]] [Ro.sl kS50 (some ⟨g96, 0, none⟩) 2 l97] (by kernel_rfl) (by kernel_rfl) ?_
      have hN : Region.noSelect Cd6.r.r.r.r.r.l.ops = true := (by kernel_rfl)
      have hF : freeAll Cd6.r.r.r.r.r.l.ops = true := (by kernel_rfl)
      have hC : Core B [Ass.box 28 a5 (encS28 (t98.getD (1 : Int).toNat zS28)), Ass.box 28 a0 (encS28 {(t98.getD (0 : Int).toNat zS28) with f5 := a18}), Ass.own 28 kS28 (some a4) a3 t98, Ass.box 50 g79 [ig a14, ig a15, ig a16, ig a17], Ass.box 50 g78 [ig a10, ig a11, ig a12, ig a13]] [Ro.sl kS50 (some ⟨g96, 0, none⟩) 2 l97] _ := ⟨_, _, hS⟩
      refine ED.Y hN hF hC 0 30 (bm 31 1) (by kernel_rfl) (by kernel_rfl) rfl (fun _ _ _ hS => YO.loadBox hS 1 rfl 28 0 7 (ag (encS28 {(t98.getD (0 : Int).toNat zS28) with f5 := a18})) 24 (by kernel_rfl) (by kernel_rfl) (by kernel_rfl) (by kernel_rfl)) ?_
      refine ED.Y hN hF hC 2 29 (bm 31 5) (by kernel_rfl) (by kernel_rfl) rfl (fun _ _ _ hS => YO.loadBox hS 0 rfl 28 0 7 (ag (encS28 (t98.getD (1 : Int).toNat zS28))) 26 (by kernel_rfl) (by kernel_rfl) (by kernel_rfl) (by kernel_rfl)) ?_
      refine ED.Y hN hF hC 5 28 (bm 31 37) (by kernel_rfl) (by kernel_rfl) rfl (fun _ _ _ hS => YO.loadBox hS 1 rfl 28 0 7 (ag (encS28 {(t98.getD (0 : Int).toNat zS28) with f5 := a18})) 29 (by kernel_rfl) (by kernel_rfl) (by kernel_rfl) (by kernel_rfl)) ?_
      refine ED.Y hN hF hC 6 27 (bm 31 101) (by kernel_rfl) (by kernel_rfl) rfl (fun _ _ _ hS => YO.loadBox hS 0 rfl 28 0 7 (ag (encS28 (t98.getD (1 : Int).toNat zS28))) 30 (by kernel_rfl) (by kernel_rfl) (by kernel_rfl) (by kernel_rfl)) ?_
      refine ED.Y hN hF hC 7 26 (bm 31 229) (by kernel_rfl) (by kernel_rfl) rfl (fun _ _ _ hS => YO.eqAg .eql 28 (.tmp 29) (.tmp 30) #[ia ((t98.getD (0 : Int).toNat zS28).f0), ia ((t98.getD (0 : Int).toNat zS28).f1), ia ((t98.getD (0 : Int).toNat zS28).f2), ia ((t98.getD (0 : Int).toNat zS28).f3), ib ((t98.getD (0 : Int).toNat zS28).f4), ib a18, ib ((t98.getD (0 : Int).toNat zS28).f6)] #[ia ((t98.getD (1 : Int).toNat zS28).f0), ia ((t98.getD (1 : Int).toNat zS28).f1), ia ((t98.getD (1 : Int).toNat zS28).f2), ia ((t98.getD (1 : Int).toNat zS28).f3), ib ((t98.getD (1 : Int).toNat zS28).f4), ib ((t98.getD (1 : Int).toNat zS28).f5), ib ((t98.getD (1 : Int).toNat zS28).f6)] ((((t98.getD (0 : Int).toNat zS28).f0) == ((t98.getD (1 : Int).toNat zS28).f0)) && ((((t98.getD (0 : Int).toNat zS28).f1) == ((t98.getD (1 : Int).toNat zS28).f1)) && ((((t98.getD (0 : Int).toNat zS28).f2) == ((t98.getD (1 : Int).toNat zS28).f2)) && ((((t98.getD (0 : Int).toNat zS28).f3) == ((t98.getD (1 : Int).toNat zS28).f3)) && ((((t98.getD (0 : Int).toNat zS28).f4) == ((t98.getD (1 : Int).toNat zS28).f4)) && ((a18 == ((t98.getD (1 : Int).toNat zS28).f5)) && ((((t98.getD (0 : Int).toNat zS28).f6) == ((t98.getD (1 : Int).toNat zS28).f6)) && true))))))) (((((t98.getD (0 : Int).toNat zS28).f0) == ((t98.getD (1 : Int).toNat zS28).f0)) && ((((t98.getD (0 : Int).toNat zS28).f1) == ((t98.getD (1 : Int).toNat zS28).f1)) && ((((t98.getD (0 : Int).toNat zS28).f2) == ((t98.getD (1 : Int).toNat zS28).f2)) && ((((t98.getD (0 : Int).toNat zS28).f3) == ((t98.getD (1 : Int).toNat zS28).f3)) && ((((t98.getD (0 : Int).toNat zS28).f4) == ((t98.getD (1 : Int).toNat zS28).f4)) && ((a18 == ((t98.getD (1 : Int).toNat zS28).f5)) && ((((t98.getD (0 : Int).toNat zS28).f6) == ((t98.getD (1 : Int).toNat zS28).f6)) && true)))))))) 31 (by kernel_rfl) (by kernel_rfl) (by kernel_rfl) (by kernel_rfl) (by kernel_rfl) (.inl ⟨rfl, rfl⟩)) ?_
      have hq := trace_Text.calls g5 hS gB
      refine ED.one 1 25 (bm 31 231) (by kernel_rfl) (by kernel_rfl) (by kernel_rfl) (EO.callD 25 [ag (encS28 {(t98.getD (0 : Int).toNat zS28) with f5 := a18})] _ 25 (by kernel_rfl) (by kernel_rfl) (by kernel_rfl) hq ?_)
      rintro v w ⟨rfl, hS⟩
      have hC := hC.again ⟨_, _, hS⟩
      refine ⟨hC, ?_⟩
      have hq := trace_Text.calls g6 hS gB
      refine ED.one 3 24 (bm 31 239) (by kernel_rfl) (by kernel_rfl) (by kernel_rfl) (EO.callD 25 [ag (encS28 (t98.getD (1 : Int).toNat zS28))] _ 27 (by kernel_rfl) (by kernel_rfl) (by kernel_rfl) hq ?_)
      rintro v w ⟨rfl, hS⟩
      have hC := hC.again ⟨_, _, hS⟩
      refine ⟨hC, ?_⟩
      refine ED.quick hN hF hC [4, 8, 9] [8, 9, 33] 21 [(8, pt a0 0), (9, pt a5 0), (33, .bool (((c0.toList == c1.toList) == ((((t98.getD (0 : Int).toNat zS28).f0) == ((t98.getD (1 : Int).toNat zS28).f0)) && ((((t98.getD (0 : Int).toNat zS28).f1) == ((t98.getD (1 : Int).toNat zS28).f1)) && ((((t98.getD (0 : Int).toNat zS28).f2) == ((t98.getD (1 : Int).toNat zS28).f2)) && ((((t98.getD (0 : Int).toNat zS28).f3) == ((t98.getD (1 : Int).toNat zS28).f3)) && ((((t98.getD (0 : Int).toNat zS28).f4) == ((t98.getD (1 : Int).toNat zS28).f4)) && ((a18 == ((t98.getD (1 : Int).toNat zS28).f5)) && ((((t98.getD (0 : Int).toNat zS28).f6) == ((t98.getD (1 : Int).toNat zS28).f6)) && true))))))))))] (bm 31 1023) (by kernel_rfl) (by kernel_rfl) ?_
      refine ED.keep [8, 9, 33] [(8, pt a0 0), (9, pt a5 0), (33, .bool (((c0.toList == c1.toList) == ((((t98.getD (0 : Int).toNat zS28).f0) == ((t98.getD (1 : Int).toNat zS28).f0)) && ((((t98.getD (0 : Int).toNat zS28).f1) == ((t98.getD (1 : Int).toNat zS28).f1)) && ((((t98.getD (0 : Int).toNat zS28).f2) == ((t98.getD (1 : Int).toNat zS28).f2)) && ((((t98.getD (0 : Int).toNat zS28).f3) == ((t98.getD (1 : Int).toNat zS28).f3)) && ((((t98.getD (0 : Int).toNat zS28).f4) == ((t98.getD (1 : Int).toNat zS28).f4)) && ((a18 == ((t98.getD (1 : Int).toNat zS28).f5)) && ((((t98.getD (0 : Int).toNat zS28).f6) == ((t98.getD (1 : Int).toNat zS28).f6)) && true))))))))))] (by kernel_rfl) ?_
      refine ED.as' [(8, pt a0 0), (9, pt a5 0), (33, .bool (true))] (by simp only [encS28, sv, d6, Bool.not_true, Bool.not_false]) ?_
      refine ED.Y hN hF hC 10 20 (bm 31 2047) (by kernel_rfl) (by kernel_rfl) rfl (fun _ _ _ hS => YO.loadBox hS 1 rfl 28 0 7 (ag (encS28 {(t98.getD (0 : Int).toNat zS28) with f5 := a18})) 34 (by kernel_rfl) (by kernel_rfl) (by kernel_rfl) (by kernel_rfl)) ?_
      refine ED.Y hN hF hC 14 19 (bm 31 18431) (by kernel_rfl) (by kernel_rfl) rfl (fun _ _ _ hS => YO.loadBox hS 0 rfl 28 0 7 (ag (encS28 (t98.getD (1 : Int).toNat zS28))) 38 (by kernel_rfl) (by kernel_rfl) (by kernel_rfl) (by kernel_rfl)) ?_
      refine ED.Y hN hF hC 19 18 (bm 31 542719) (by kernel_rfl) (by kernel_rfl) rfl (fun _ _ _ hS => YO.loadBox hS 1 rfl 28 0 7 (ag (encS28 {(t98.getD (0 : Int).toNat zS28) with f5 := a18})) 43 (by kernel_rfl) (by kernel_rfl) (by kernel_rfl) (by kernel_rfl)) ?_
      refine ED.Y hN hF hC 20 17 (bm 31 1591295) (by kernel_rfl) (by kernel_rfl) rfl (fun _ _ _ hS => YO.loadBox hS 0 rfl 28 0 7 (ag (encS28 (t98.getD (1 : Int).toNat zS28))) 44 (by kernel_rfl) (by kernel_rfl) (by kernel_rfl) (by kernel_rfl)) ?_
      refine ED.Y hN hF hC 21 16 (bm 31 3688447) (by kernel_rfl) (by kernel_rfl) rfl (fun _ _ _ hS => YO.eqAg .eql 28 (.tmp 43) (.tmp 44) #[ia ((t98.getD (0 : Int).toNat zS28).f0), ia ((t98.getD (0 : Int).toNat zS28).f1), ia ((t98.getD (0 : Int).toNat zS28).f2), ia ((t98.getD (0 : Int).toNat zS28).f3), ib ((t98.getD (0 : Int).toNat zS28).f4), ib a18, ib ((t98.getD (0 : Int).toNat zS28).f6)] #[ia ((t98.getD (1 : Int).toNat zS28).f0), ia ((t98.getD (1 : Int).toNat zS28).f1), ia ((t98.getD (1 : Int).toNat zS28).f2), ia ((t98.getD (1 : Int).toNat zS28).f3), ib ((t98.getD (1 : Int).toNat zS28).f4), ib ((t98.getD (1 : Int).toNat zS28).f5), ib ((t98.getD (1 : Int).toNat zS28).f6)] ((((t98.getD (0 : Int).toNat zS28).f0) == ((t98.getD (1 : Int).toNat zS28).f0)) && ((((t98.getD (0 : Int).toNat zS28).f1) == ((t98.getD (1 : Int).toNat zS28).f1)) && ((((t98.getD (0 : Int).toNat zS28).f2) == ((t98.getD (1 : Int).toNat zS28).f2)) && ((((t98.getD (0 : Int).toNat zS28).f3) == ((t98.getD (1 : Int).toNat zS28).f3)) && ((((t98.getD (0 : Int).toNat zS28).f4) == ((t98.getD (1 : Int).toNat zS28).f4)) && ((a18 == ((t98.getD (1 : Int).toNat zS28).f5)) && ((((t98.getD (0 : Int).toNat zS28).f6) == ((t98.getD (1 : Int).toNat zS28).f6)) && true))))))) (((((t98.getD (0 : Int).toNat zS28).f0) == ((t98.getD (1 : Int).toNat zS28).f0)) && ((((t98.getD (0 : Int).toNat zS28).f1) == ((t98.getD (1 : Int).toNat zS28).f1)) && ((((t98.getD (0 : Int).toNat zS28).f2) == ((t98.getD (1 : Int).toNat zS28).f2)) && ((((t98.getD (0 : Int).toNat zS28).f3) == ((t98.getD (1 : Int).toNat zS28).f3)) && ((((t98.getD (0 : Int).toNat zS28).f4) == ((t98.getD (1 : Int).toNat zS28).f4)) && ((a18 == ((t98.getD (1 : Int).toNat zS28).f5)) && ((((t98.getD (0 : Int).toNat zS28).f6) == ((t98.getD (1 : Int).toNat zS28).f6)) && true)))))))) 45 (by kernel_rfl) (by kernel_rfl) (by kernel_rfl) (by kernel_rfl) (by kernel_rfl) (.inl ⟨rfl, rfl⟩)) ?_
      refine ED.two 11 15 15 (by kernel_rfl) (by kernel_rfl) ?_ ?_
      ·refine EO.lit hS kS28 28 22 1 #[(0, ag (encS28 {(t98.getD (0 : Int).toNat zS28) with f5 := a18}))] [ia ((t98.getD (0 : Int).toNat zS28).f0), ia ((t98.getD (0 : Int).toNat zS28).f1), ia ((t98.getD (0 : Int).toNat zS28).f2), ia ((t98.getD (0 : Int).toNat zS28).f3), ib ((t98.getD (0 : Int).toNat zS28).f4), ib a18, ib ((t98.getD (0 : Int).toNat zS28).f6)] a7 35 (by kernel_rfl) (by kernel_rfl) (by kernel_rfl) (fun _ => (by kernel_rfl)) (by rw [d0]; rfl) (by kernel_rfl) (fun w G hr => (by rw [d0]; exact ⟨[ia ((t98.getD (0 : Int).toNat zS28).f0), ia ((t98.getD (0 : Int).toNat zS28).f1), ia ((t98.getD (0 : Int).toNat zS28).f2), ia ((t98.getD (0 : Int).toNat zS28).f3), ib ((t98.getD (0 : Int).toNat zS28).f4), ib a18, ib ((t98.getD (0 : Int).toNat zS28).f6)], [], rfl, ⟨[ia ((t98.getD (0 : Int).toNat zS28).f0)], [ia ((t98.getD (0 : Int).toNat zS28).f1), ia ((t98.getD (0 : Int).toNat zS28).f2), ia ((t98.getD (0 : Int).toNat zS28).f3), ib ((t98.getD (0 : Int).toNat zS28).f4), ib a18, ib ((t98.getD (0 : Int).toNat zS28).f6)], rfl, rfl, ⟨[ia ((t98.getD (0 : Int).toNat zS28).f1)], [ia ((t98.getD (0 : Int).toNat zS28).f2), ia ((t98.getD (0 : Int).toNat zS28).f3), ib ((t98.getD (0 : Int).toNat zS28).f4), ib a18, ib ((t98.getD (0 : Int).toNat zS28).f6)], rfl, rfl, ⟨[ia ((t98.getD (0 : Int).toNat zS28).f2)], [ia ((t98.getD (0 : Int).toNat zS28).f3), ib ((t98.getD (0 : Int).toNat zS28).f4), ib a18, ib ((t98.getD (0 : Int).toNat zS28).f6)], rfl, rfl, ⟨[ia ((t98.getD (0 : Int).toNat zS28).f3)], [ib ((t98.getD (0 : Int).toNat zS28).f4), ib a18, ib ((t98.getD (0 : Int).toNat zS28).f6)], rfl, rfl, ⟨[ib ((t98.getD (0 : Int).toNat zS28).f4)], [ib a18, ib ((t98.getD (0 : Int).toNat zS28).f6)], rfl, rfl, ⟨[ib a18], [ib ((t98.getD (0 : Int).toNat zS28).f6)], rfl, rfl, ⟨[ib ((t98.getD (0 : Int).toNat zS28).f6)], [], rfl, rfl, rfl⟩⟩⟩⟩⟩⟩⟩, rfl⟩)) ?_
       intro b8 w hS
       have hC := hC.again ⟨_, _, hS.re [5, 5, 5, 5, 5] [] rfl sub_self⟩
       refine ⟨hC, ?_⟩
       refine ED.at' (bm 31 3690495) (by kernel_rfl) ?_
       refine ED.two 12 15 14 (by kernel_rfl) (by kernel_rfl) ?_ ?_
       ·have hS := St.fr hS 0 rfl
        have hS : St B _ (Ass.box 28 a5 (encS28 (t98.getD (1 : Int).toNat zS28)) :: Ass.box 28 a0 (encS28 {(t98.getD (0 : Int).toNat zS28) with f5 := a18}) :: Ass.own 28 kS28 (some a4) a3 t98 :: Ass.box 50 g79 [ig a14, ig a15, ig a16, ig a17] :: Ass.box 50 g78 [ig a10, ig a11, ig a12, ig a13] :: os) (Ro.sl kS28 (some ⟨b8, 0, none⟩) 1 a7 :: Ro.sl kS50 (some ⟨g96, 0, none⟩) 2 l97 :: rs) := hS.re [] [] rfl (sub_cons 0 rfl (sub_tail (sub_self)))
        have hq := trace_Put.calls d1 hS
        refine EO.callD 15 [sv (some ⟨b8, 0, none⟩) 1 a7] _ 36 (by kernel_rfl) (by kernel_rfl) (by kernel_rfl) hq ?_
        rintro v w ⟨b3, b5, rfl, hS⟩
        have hC := hC.again ⟨_, _, hS.re [5, 5, 5, 5, 5] [] rfl (sub_cons 1 rfl sub_self)⟩
        refine ⟨hC, ?_⟩
        refine ED.at' (bm 31 3694591) (by kernel_rfl) ?_
        refine ED.two 13 15 13 (by kernel_rfl) (by kernel_rfl) ?_ ?_
        ·refine EO.Y (YO.bstr hS b3 b5 a1 (Rd.own 0 5 rfl) 33 9 5 37 (by kernel_rfl) (by kernel_rfl) (by kernel_rfl) (by kernel_rfl) (by kernel_rfl) (by kernel_rfl)) ?_
         have hC := hC.again ⟨_, _, hS.re [5, 5, 5, 5, 5] [] rfl (sub_cons 1 rfl sub_self)⟩
         refine ⟨hC, ?_⟩
         refine ED.at' (bm 31 3702783) (by kernel_rfl) ?_
         refine ED.one 15 12 (bm 31 3735551) (by kernel_rfl) (by kernel_rfl) (by kernel_rfl) (EO.lit hS kS28 28 22 1 #[(0, ag (encS28 (t98.getD (1 : Int).toNat zS28)))] [ia ((t98.getD (1 : Int).toNat zS28).f0), ia ((t98.getD (1 : Int).toNat zS28).f1), ia ((t98.getD (1 : Int).toNat zS28).f2), ia ((t98.getD (1 : Int).toNat zS28).f3), ib ((t98.getD (1 : Int).toNat zS28).f4), ib ((t98.getD (1 : Int).toNat zS28).f5), ib ((t98.getD (1 : Int).toNat zS28).f6)] a6 39 (by kernel_rfl) (by kernel_rfl) (by kernel_rfl) (fun _ => (by kernel_rfl)) (by rw [b0]; rfl) (by kernel_rfl) (fun w G hr => (by rw [b0]; exact ⟨[ia ((t98.getD (1 : Int).toNat zS28).f0), ia ((t98.getD (1 : Int).toNat zS28).f1), ia ((t98.getD (1 : Int).toNat zS28).f2), ia ((t98.getD (1 : Int).toNat zS28).f3), ib ((t98.getD (1 : Int).toNat zS28).f4), ib ((t98.getD (1 : Int).toNat zS28).f5), ib ((t98.getD (1 : Int).toNat zS28).f6)], [], rfl, ⟨[ia ((t98.getD (1 : Int).toNat zS28).f0)], [ia ((t98.getD (1 : Int).toNat zS28).f1), ia ((t98.getD (1 : Int).toNat zS28).f2), ia ((t98.getD (1 : Int).toNat zS28).f3), ib ((t98.getD (1 : Int).toNat zS28).f4), ib ((t98.getD (1 : Int).toNat zS28).f5), ib ((t98.getD (1 : Int).toNat zS28).f6)], rfl, rfl, ⟨[ia ((t98.getD (1 : Int).toNat zS28).f1)], [ia ((t98.getD (1 : Int).toNat zS28).f2), ia ((t98.getD (1 : Int).toNat zS28).f3), ib ((t98.getD (1 : Int).toNat zS28).f4), ib ((t98.getD (1 : Int).toNat zS28).f5), ib ((t98.getD (1 : Int).toNat zS28).f6)], rfl, rfl, ⟨[ia ((t98.getD (1 : Int).toNat zS28).f2)], [ia ((t98.getD (1 : Int).toNat zS28).f3), ib ((t98.getD (1 : Int).toNat zS28).f4), ib ((t98.getD (1 : Int).toNat zS28).f5), ib ((t98.getD (1 : Int).toNat zS28).f6)], rfl, rfl, ⟨[ia ((t98.getD (1 : Int).toNat zS28).f3)], [ib ((t98.getD (1 : Int).toNat zS28).f4), ib ((t98.getD (1 : Int).toNat zS28).f5), ib ((t98.getD (1 : Int).toNat zS28).f6)], rfl, rfl, ⟨[ib ((t98.getD (1 : Int).toNat zS28).f4)], [ib ((t98.getD (1 : Int).toNat zS28).f5), ib ((t98.getD (1 : Int).toNat zS28).f6)], rfl, rfl, ⟨[ib ((t98.getD (1 : Int).toNat zS28).f5)], [ib ((t98.getD (1 : Int).toNat zS28).f6)], rfl, rfl, ⟨[ib ((t98.getD (1 : Int).toNat zS28).f6)], [], rfl, rfl, rfl⟩⟩⟩⟩⟩⟩⟩, rfl⟩)) ?_)
         intro m1 w hS
         have hC := hC.again ⟨_, _, hS.re [6, 6, 6, 6, 6] [] rfl (sub_cons 1 rfl sub_self)⟩
         refine ⟨hC, ?_⟩
         have hS := St.fr hS 0 rfl
         have hS : St B _ (Ass.own 5 (Kd.int .u8) b3 b5 a1 :: Ass.box 28 a5 (encS28 (t98.getD (1 : Int).toNat zS28)) :: Ass.box 28 a0 (encS28 {(t98.getD (0 : Int).toNat zS28) with f5 := a18}) :: Ass.own 28 kS28 (some a4) a3 t98 :: Ass.box 50 g79 [ig a14, ig a15, ig a16, ig a17] :: Ass.box 50 g78 [ig a10, ig a11, ig a12, ig a13] :: os) (Ro.sl kS28 (some ⟨m1, 0, none⟩) 1 a6 :: Ro.sl kS28 (some ⟨b8, 0, none⟩) 1 a7 :: Ro.sl kS50 (some ⟨g96, 0, none⟩) 2 l97 :: rs) := hS.re [] [] rfl (sub_cons 0 rfl (sub_tail (sub_self)))
         have hq := trace_Put.calls b2 hS
         refine ED.one 16 11 (bm 31 3801087) (by kernel_rfl) (by kernel_rfl) (by kernel_rfl) (EO.callD 15 [sv (some ⟨m1, 0, none⟩) 1 a6] _ 40 (by kernel_rfl) (by kernel_rfl) (by kernel_rfl) hq ?_)
         rintro v w ⟨g9, j1, rfl, hS⟩
         have hC := hC.again ⟨_, _, hS.re [6, 6, 6, 6, 6] [] rfl (sub_cons 2 rfl sub_self)⟩
         refine ⟨hC, ?_⟩
         refine ED.one 17 10 (bm 31 3932159) (by kernel_rfl) (by kernel_rfl) (by kernel_rfl) (EO.Y (YO.bstr hS g9 j1 a2 (Rd.own 0 5 rfl) 33 9 5 41 (by kernel_rfl) (by kernel_rfl) (by kernel_rfl) (by kernel_rfl) (by kernel_rfl) (by kernel_rfl)) ?_)
         have hC := hC.again ⟨_, _, hS.re [6, 6, 6, 6, 6] [] rfl (sub_cons 2 rfl sub_self)⟩
         refine ⟨hC, ?_⟩
         refine ED.quick hN hF hC [18, 22, 23, 24] [8, 48] 6 [(8, pt a0 0), (48, .bool ((((bStr a1).toList == (bStr a2).toList) == ((((t98.getD (0 : Int).toNat zS28).f0) == ((t98.getD (1 : Int).toNat zS28).f0)) && ((((t98.getD (0 : Int).toNat zS28).f1) == ((t98.getD (1 : Int).toNat zS28).f1)) && ((((t98.getD (0 : Int).toNat zS28).f2) == ((t98.getD (1 : Int).toNat zS28).f2)) && ((((t98.getD (0 : Int).toNat zS28).f3) == ((t98.getD (1 : Int).toNat zS28).f3)) && ((((t98.getD (0 : Int).toNat zS28).f4) == ((t98.getD (1 : Int).toNat zS28).f4)) && ((a18 == ((t98.getD (1 : Int).toNat zS28).f5)) && ((((t98.getD (0 : Int).toNat zS28).f6) == ((t98.getD (1 : Int).toNat zS28).f6)) && true))))))))))] (bm 31 33554431) (by kernel_rfl) (by kernel_rfl) ?_
         refine ED.keep [8, 48] [(8, pt a0 0), (48, .bool ((((bStr a1).toList == (bStr a2).toList) == ((((t98.getD (0 : Int).toNat zS28).f0) == ((t98.getD (1 : Int).toNat zS28).f0)) && ((((t98.getD (0 : Int).toNat zS28).f1) == ((t98.getD (1 : Int).toNat zS28).f1)) && ((((t98.getD (0 : Int).toNat zS28).f2) == ((t98.getD (1 : Int).toNat zS28).f2)) && ((((t98.getD (0 : Int).toNat zS28).f3) == ((t98.getD (1 : Int).toNat zS28).f3)) && ((((t98.getD (0 : Int).toNat zS28).f4) == ((t98.getD (1 : Int).toNat zS28).f4)) && ((a18 == ((t98.getD (1 : Int).toNat zS28).f5)) && ((((t98.getD (0 : Int).toNat zS28).f6) == ((t98.getD (1 : Int).toNat zS28).f6)) && true))))))))))] (by kernel_rfl) ?_
         refine ED.as' [(8, pt a0 0), (48, .bool (true))] (by simp only [encS28, sv, a9, Bool.not_true, Bool.not_false]) ?_
         refine ED.Y hN hF hC 25 5 (bm 31 67108863) (by kernel_rfl) (by kernel_rfl) rfl (fun _ _ _ hS => YO.loadBox hS 1 rfl 28 0 7 (ag (encS28 {(t98.getD (0 : Int).toNat zS28) with f5 := a18})) 49 (by kernel_rfl) (by kernel_rfl) (by kernel_rfl) (by kernel_rfl)) ?_
         have hq := trace_Text.calls b7 hS gB
         refine ED.one 26 4 (bm 31 134217727) (by kernel_rfl) (by kernel_rfl) (by kernel_rfl) (EO.callD 25 [ag (encS28 {(t98.getD (0 : Int).toNat zS28) with f5 := a18})] _ 50 (by kernel_rfl) (by kernel_rfl) (by kernel_rfl) hq ?_)
         rintro v w ⟨rfl, hS⟩
         have hC := hC.again ⟨_, _, hS.re [6, 6, 6, 6, 6] [] rfl (sub_cons 2 rfl sub_self)⟩
         refine ⟨hC, ?_⟩
         refine ED.quick hN hF hC [27, 28, 29, 30] [6] 0 [(6, .bool (decide ((a8.size : Int) > 14)))] (bm 31 2147483647) (by kernel_rfl) (by kernel_rfl) ?_
         refine ED.done (by kernel_rfl) ?_
         refine EQ.to ?_
         refine EQ.keep [6] [(6, .bool (decide ((a8.size : Int) > 14)))] (by kernel_rfl) ?_
         exact fun a ha => ⟨g9, j1, b3, b5, ha, (hS.re [6, 6, 6, 6, 6, 6, 6] [] rfl (sub_cons 2 rfl (sub_tail (sub_tail (sub_tail (sub_self))))))⟩
        ·refine EO.lit hS kS28 28 22 1 #[(0, ag (encS28 (t98.getD (1 : Int).toNat zS28)))] [ia ((t98.getD (1 : Int).toNat zS28).f0), ia ((t98.getD (1 : Int).toNat zS28).f1), ia ((t98.getD (1 : Int).toNat zS28).f2), ia ((t98.getD (1 : Int).toNat zS28).f3), ib ((t98.getD (1 : Int).toNat zS28).f4), ib ((t98.getD (1 : Int).toNat zS28).f5), ib ((t98.getD (1 : Int).toNat zS28).f6)] a6 39 (by kernel_rfl) (by kernel_rfl) (by kernel_rfl) (fun _ => (by kernel_rfl)) (by rw [b0]; rfl) (by kernel_rfl) (fun w G hr => (by rw [b0]; exact ⟨[ia ((t98.getD (1 : Int).toNat zS28).f0), ia ((t98.getD (1 : Int).toNat zS28).f1), ia ((t98.getD (1 : Int).toNat zS28).f2), ia ((t98.getD (1 : Int).toNat zS28).f3), ib ((t98.getD (1 : Int).toNat zS28).f4), ib ((t98.getD (1 : Int).toNat zS28).f5), ib ((t98.getD (1 : Int).toNat zS28).f6)], [], rfl, ⟨[ia ((t98.getD (1 : Int).toNat zS28).f0)], [ia ((t98.getD (1 : Int).toNat zS28).f1), ia ((t98.getD (1 : Int).toNat zS28).f2), ia ((t98.getD (1 : Int).toNat zS28).f3), ib ((t98.getD (1 : Int).toNat zS28).f4), ib ((t98.getD (1 : Int).toNat zS28).f5), ib ((t98.getD (1 : Int).toNat zS28).f6)], rfl, rfl, ⟨[ia ((t98.getD (1 : Int).toNat zS28).f1)], [ia ((t98.getD (1 : Int).toNat zS28).f2), ia ((t98.getD (1 : Int).toNat zS28).f3), ib ((t98.getD (1 : Int).toNat zS28).f4), ib ((t98.getD (1 : Int).toNat zS28).f5), ib ((t98.getD (1 : Int).toNat zS28).f6)], rfl, rfl, ⟨[ia ((t98.getD (1 : Int).toNat zS28).f2)], [ia ((t98.getD (1 : Int).toNat zS28).f3), ib ((t98.getD (1 : Int).toNat zS28).f4), ib ((t98.getD (1 : Int).toNat zS28).f5), ib ((t98.getD (1 : Int).toNat zS28).f6)], rfl, rfl, ⟨[ia ((t98.getD (1 : Int).toNat zS28).f3)], [ib ((t98.getD (1 : Int).toNat zS28).f4), ib ((t98.getD (1 : Int).toNat zS28).f5), ib ((t98.getD (1 : Int).toNat zS28).f6)], rfl, rfl, ⟨[ib ((t98.getD (1 : Int).toNat zS28).f4)], [ib ((t98.getD (1 : Int).toNat zS28).f5), ib ((t98.getD (1 : Int).toNat zS28).f6)], rfl, rfl, ⟨[ib ((t98.getD (1 : Int).toNat zS28).f5)], [ib ((t98.getD (1 : Int).toNat zS28).f6)], rfl, rfl, ⟨[ib ((t98.getD (1 : Int).toNat zS28).f6)], [], rfl, rfl, rfl⟩⟩⟩⟩⟩⟩⟩, rfl⟩)) ?_
         intro g0 w hS
         have hC := hC.again ⟨_, _, hS.re [6, 6, 6, 6, 6] [] rfl (sub_cons 1 rfl sub_self)⟩
         refine ⟨hC, ?_⟩
         refine ED.at' (bm 31 3727359) (by kernel_rfl) ?_
         refine ED.two 13 16 12 (by kernel_rfl) (by kernel_rfl) ?_ ?_
         ·refine EO.Y (YO.bstr hS b3 b5 a1 (Rd.own 1 5 rfl) 33 9 5 37 (by kernel_rfl) (by kernel_rfl) (by kernel_rfl) (by kernel_rfl) (by kernel_rfl) (by kernel_rfl)) ?_
          have hC := hC.again ⟨_, _, hS.re [6, 6, 6, 6, 6] [] rfl (sub_cons 1 rfl sub_self)⟩
          refine ⟨hC, ?_⟩
          refine ED.at' (bm 31 3735551) (by kernel_rfl) ?_
          have hS := St.fr hS 0 rfl
          have hS : St B _ (Ass.own 5 (Kd.int .u8) b3 b5 a1 :: Ass.box 28 a5 (encS28 (t98.getD (1 : Int).toNat zS28)) :: Ass.box 28 a0 (encS28 {(t98.getD (0 : Int).toNat zS28) with f5 := a18}) :: Ass.own 28 kS28 (some a4) a3 t98 :: Ass.box 50 g79 [ig a14, ig a15, ig a16, ig a17] :: Ass.box 50 g78 [ig a10, ig a11, ig a12, ig a13] :: os) (Ro.sl kS28 (some ⟨g0, 0, none⟩) 1 a6 :: Ro.sl kS28 (some ⟨b8, 0, none⟩) 1 a7 :: Ro.sl kS50 (some ⟨g96, 0, none⟩) 2 l97 :: rs) := hS.re [] [] rfl (sub_cons 0 rfl (sub_tail (sub_self)))
          have hq := trace_Put.calls b2 hS
          refine ED.one 16 11 (bm 31 3801087) (by kernel_rfl) (by kernel_rfl) (by kernel_rfl) (EO.callD 15 [sv (some ⟨g0, 0, none⟩) 1 a6] _ 40 (by kernel_rfl) (by kernel_rfl) (by kernel_rfl) hq ?_)
          rintro v w ⟨i0, j2, rfl, hS⟩
          have hC := hC.again ⟨_, _, hS.re [6, 6, 6, 6, 6] [] rfl (sub_cons 2 rfl sub_self)⟩
          refine ⟨hC, ?_⟩
          refine ED.one 17 10 (bm 31 3932159) (by kernel_rfl) (by kernel_rfl) (by kernel_rfl) (EO.Y (YO.bstr hS i0 j2 a2 (Rd.own 0 5 rfl) 33 9 5 41 (by kernel_rfl) (by kernel_rfl) (by kernel_rfl) (by kernel_rfl) (by kernel_rfl) (by kernel_rfl)) ?_)
          have hC := hC.again ⟨_, _, hS.re [6, 6, 6, 6, 6] [] rfl (sub_cons 2 rfl sub_self)⟩
          refine ⟨hC, ?_⟩
          refine ED.quick hN hF hC [18, 22, 23, 24] [8, 48] 6 [(8, pt a0 0), (48, .bool ((((bStr a1).toList == (bStr a2).toList) == ((((t98.getD (0 : Int).toNat zS28).f0) == ((t98.getD (1 : Int).toNat zS28).f0)) && ((((t98.getD (0 : Int).toNat zS28).f1) == ((t98.getD (1 : Int).toNat zS28).f1)) && ((((t98.getD (0 : Int).toNat zS28).f2) == ((t98.getD (1 : Int).toNat zS28).f2)) && ((((t98.getD (0 : Int).toNat zS28).f3) == ((t98.getD (1 : Int).toNat zS28).f3)) && ((((t98.getD (0 : Int).toNat zS28).f4) == ((t98.getD (1 : Int).toNat zS28).f4)) && ((a18 == ((t98.getD (1 : Int).toNat zS28).f5)) && ((((t98.getD (0 : Int).toNat zS28).f6) == ((t98.getD (1 : Int).toNat zS28).f6)) && true))))))))))] (bm 31 33554431) (by kernel_rfl) (by kernel_rfl) ?_
          refine ED.keep [8, 48] [(8, pt a0 0), (48, .bool ((((bStr a1).toList == (bStr a2).toList) == ((((t98.getD (0 : Int).toNat zS28).f0) == ((t98.getD (1 : Int).toNat zS28).f0)) && ((((t98.getD (0 : Int).toNat zS28).f1) == ((t98.getD (1 : Int).toNat zS28).f1)) && ((((t98.getD (0 : Int).toNat zS28).f2) == ((t98.getD (1 : Int).toNat zS28).f2)) && ((((t98.getD (0 : Int).toNat zS28).f3) == ((t98.getD (1 : Int).toNat zS28).f3)) && ((((t98.getD (0 : Int).toNat zS28).f4) == ((t98.getD (1 : Int).toNat zS28).f4)) && ((a18 == ((t98.getD (1 : Int).toNat zS28).f5)) && ((((t98.getD (0 : Int).toNat zS28).f6) == ((t98.getD (1 : Int).toNat zS28).f6)) && true))))))))))] (by kernel_rfl) ?_
          refine ED.as' [(8, pt a0 0), (48, .bool (true))] (by simp only [encS28, sv, a9, Bool.not_true, Bool.not_false]) ?_
          refine ED.Y hN hF hC 25 5 (bm 31 67108863) (by kernel_rfl) (by kernel_rfl) rfl (fun _ _ _ hS => YO.loadBox hS 1 rfl 28 0 7 (ag (encS28 {(t98.getD (0 : Int).toNat zS28) with f5 := a18})) 49 (by kernel_rfl) (by kernel_rfl) (by kernel_rfl) (by kernel_rfl)) ?_
          have hq := trace_Text.calls b7 hS gB
          refine ED.one 26 4 (bm 31 134217727) (by kernel_rfl) (by kernel_rfl) (by kernel_rfl) (EO.callD 25 [ag (encS28 {(t98.getD (0 : Int).toNat zS28) with f5 := a18})] _ 50 (by kernel_rfl) (by kernel_rfl) (by kernel_rfl) hq ?_)
          rintro v w ⟨rfl, hS⟩
          have hC := hC.again ⟨_, _, hS.re [6, 6, 6, 6, 6] [] rfl (sub_cons 2 rfl sub_self)⟩
          refine ⟨hC, ?_⟩
          refine ED.quick hN hF hC [27, 28, 29, 30] [6] 0 [(6, .bool (decide ((a8.size : Int) > 14)))] (bm 31 2147483647) (by kernel_rfl) (by kernel_rfl) ?_
          refine ED.done (by kernel_rfl) ?_
          refine EQ.to ?_
          refine EQ.keep [6] [(6, .bool (decide ((a8.size : Int) > 14)))] (by kernel_rfl) ?_
          exact fun a ha => ⟨i0, j2, b3, b5, ha, (hS.re [6, 6, 6, 6, 6, 6, 6] [] rfl (sub_cons 2 rfl (sub_tail (sub_tail (sub_tail (sub_self))))))⟩
         ·have hS := St.fr hS 0 rfl
          have hS : St B _ (Ass.own 5 (Kd.int .u8) b3 b5 a1 :: Ass.box 28 a5 (encS28 (t98.getD (1 : Int).toNat zS28)) :: Ass.box 28 a0 (encS28 {(t98.getD (0 : Int).toNat zS28) with f5 := a18}) :: Ass.own 28 kS28 (some a4) a3 t98 :: Ass.box 50 g79 [ig a14, ig a15, ig a16, ig a17] :: Ass.box 50 g78 [ig a10, ig a11, ig a12, ig a13] :: os) (Ro.sl kS28 (some ⟨g0, 0, none⟩) 1 a6 :: Ro.sl kS28 (some ⟨b8, 0, none⟩) 1 a7 :: Ro.sl kS50 (some ⟨g96, 0, none⟩) 2 l97 :: rs) := hS.re [] [] rfl (sub_cons 0 rfl (sub_tail (sub_self)))
          have hq := trace_Put.calls b2 hS
          refine EO.callD 15 [sv (some ⟨g0, 0, none⟩) 1 a6] _ 40 (by kernel_rfl) (by kernel_rfl) (by kernel_rfl) hq ?_
          rintro v w ⟨d7, e3, rfl, hS⟩
          have hC := hC.again ⟨_, _, hS.re [6, 6, 6, 6, 6] [] rfl (sub_cons 2 rfl sub_self)⟩
          refine ⟨hC, ?_⟩
          refine ED.at' (bm 31 3792895) (by kernel_rfl) ?_
          refine ED.two 13 17 11 (by kernel_rfl) (by kernel_rfl) ?_ ?_
          ·refine EO.Y (YO.bstr hS b3 b5 a1 (Rd.own 1 5 rfl) 33 9 5 37 (by kernel_rfl) (by kernel_rfl) (by kernel_rfl) (by kernel_rfl) (by kernel_rfl) (by kernel_rfl)) ?_
           have hC := hC.again ⟨_, _, hS.re [6, 6, 6, 6, 6] [] rfl (sub_cons 2 rfl sub_self)⟩
           refine ⟨hC, ?_⟩
           refine ED.at' (bm 31 3801087) (by kernel_rfl) ?_
           refine ED.one 17 10 (bm 31 3932159) (by kernel_rfl) (by kernel_rfl) (by kernel_rfl) (EO.Y (YO.bstr hS d7 e3 a2 (Rd.own 0 5 rfl) 33 9 5 41 (by kernel_rfl) (by kernel_rfl) (by kernel_rfl) (by kernel_rfl) (by kernel_rfl) (by kernel_rfl)) ?_)
           have hC := hC.again ⟨_, _, hS.re [6, 6, 6, 6, 6] [] rfl (sub_cons 2 rfl sub_self)⟩
           refine ⟨hC, ?_⟩
           refine ED.quick hN hF hC [18, 22, 23, 24] [8, 48] 6 [(8, pt a0 0), (48, .bool ((((bStr a1).toList == (bStr a2).toList) == ((((t98.getD (0 : Int).toNat zS28).f0) == ((t98.getD (1 : Int).toNat zS28).f0)) && ((((t98.getD (0 : Int).toNat zS28).f1) == ((t98.getD (1 : Int).toNat zS28).f1)) && ((((t98.getD (0 : Int).toNat zS28).f2) == ((t98.getD (1 : Int).toNat zS28).f2)) && ((((t98.getD (0 : Int).toNat zS28).f3) == ((t98.getD (1 : Int).toNat zS28).f3)) && ((((t98.getD (0 : Int).toNat zS28).f4) == ((t98.getD (1 : Int).toNat zS28).f4)) && ((a18 == ((t98.getD (1 : Int).toNat zS28).f5)) && ((((t98.getD (0 : Int).toNat zS28).f6) == ((t98.getD (1 : Int).toNat zS28).f6)) && true))))))))))] (bm 31 33554431) (by kernel_rfl) (by kernel_rfl) ?_
           refine ED.keep [8, 48] [(8, pt a0 0), (48, .bool ((((bStr a1).toList == (bStr a2).toList) == ((((t98.getD (0 : Int).toNat zS28).f0) == ((t98.getD (1 : Int).toNat zS28).f0)) && ((((t98.getD (0 : Int).toNat zS28).f1) == ((t98.getD (1 : Int).toNat zS28).f1)) && ((((t98.getD (0 : Int).toNat zS28).f2) == ((t98.getD (1 : Int).toNat zS28).f2)) && ((((t98.getD (0 : Int).toNat zS28).f3) == ((t98.getD (1 : Int).toNat zS28).f3)) && ((((t98.getD (0 : Int).toNat zS28).f4) == ((t98.getD (1 : Int).toNat zS28).f4)) && ((a18 == ((t98.getD (1 : Int).toNat zS28).f5)) && ((((t98.getD (0 : Int).toNat zS28).f6) == ((t98.getD (1 : Int).toNat zS28).f6)) && true))))))))))] (by kernel_rfl) ?_
           refine ED.as' [(8, pt a0 0), (48, .bool (true))] (by simp only [encS28, sv, a9, Bool.not_true, Bool.not_false]) ?_
           refine ED.Y hN hF hC 25 5 (bm 31 67108863) (by kernel_rfl) (by kernel_rfl) rfl (fun _ _ _ hS => YO.loadBox hS 1 rfl 28 0 7 (ag (encS28 {(t98.getD (0 : Int).toNat zS28) with f5 := a18})) 49 (by kernel_rfl) (by kernel_rfl) (by kernel_rfl) (by kernel_rfl)) ?_
           have hq := trace_Text.calls b7 hS gB
           refine ED.one 26 4 (bm 31 134217727) (by kernel_rfl) (by kernel_rfl) (by kernel_rfl) (EO.callD 25 [ag (encS28 {(t98.getD (0 : Int).toNat zS28) with f5 := a18})] _ 50 (by kernel_rfl) (by kernel_rfl) (by kernel_rfl) hq ?_)
           rintro v w ⟨rfl, hS⟩
           have hC := hC.again ⟨_, _, hS.re [6, 6, 6, 6, 6] [] rfl (sub_cons 2 rfl sub_self)⟩
           refine ⟨hC, ?_⟩
           refine ED.quick hN hF hC [27, 28, 29, 30] [6] 0 [(6, .bool (decide ((a8.size : Int) > 14)))] (bm 31 2147483647) (by kernel_rfl) (by kernel_rfl) ?_
           refine ED.done (by kernel_rfl) ?_
           refine EQ.to ?_
           refine EQ.keep [6] [(6, .bool (decide ((a8.size : Int) > 14)))] (by kernel_rfl) ?_
           exact fun a ha => ⟨d7, e3, b3, b5, ha, (hS.re [6, 6, 6, 6, 6, 6, 6] [] rfl (sub_cons 2 rfl (sub_tail (sub_tail (sub_tail (sub_self))))))⟩
          ·refine EO.Y (YO.bstr hS d7 e3 a2 (Rd.own 0 5 rfl) 33 9 5 41 (by kernel_rfl) (by kernel_rfl) (by kernel_rfl) (by kernel_rfl) (by kernel_rfl) (by kernel_rfl)) ?_
           have hC := hC.again ⟨_, _, hS.re [6, 6, 6, 6, 6] [] rfl (sub_cons 2 rfl sub_self)⟩
           refine ⟨hC, ?_⟩
           refine ED.at' (bm 31 3923967) (by kernel_rfl) ?_
           refine ED.one 13 10 (bm 31 3932159) (by kernel_rfl) (by kernel_rfl) (by kernel_rfl) (EO.Y (YO.bstr hS b3 b5 a1 (Rd.own 1 5 rfl) 33 9 5 37 (by kernel_rfl) (by kernel_rfl) (by kernel_rfl) (by kernel_rfl) (by kernel_rfl) (by kernel_rfl)) ?_)
           have hC := hC.again ⟨_, _, hS.re [6, 6, 6, 6, 6] [] rfl (sub_cons 2 rfl sub_self)⟩
           refine ⟨hC, ?_⟩
           refine ED.quick hN hF hC [18, 22, 23, 24] [8, 48] 6 [(8, pt a0 0), (48, .bool ((((bStr a1).toList == (bStr a2).toList) == ((((t98.getD (0 : Int).toNat zS28).f0) == ((t98.getD (1 : Int).toNat zS28).f0)) && ((((t98.getD (0 : Int).toNat zS28).f1) == ((t98.getD (1 : Int).toNat zS28).f1)) && ((((t98.getD (0 : Int).toNat zS28).f2) == ((t98.getD (1 : Int).toNat zS28).f2)) && ((((t98.getD (0 : Int).toNat zS28).f3) == ((t98.getD (1 : Int).toNat zS28).f3)) && ((((t98.getD (0 : Int).toNat zS28).f4) == ((t98.getD (1 : Int).toNat zS28).f4)) && ((a18 == ((t98.getD (1 : Int).toNat zS28).f5)) && ((((t98.getD (0 : Int).toNat zS28).f6) == ((t98.getD (1 : Int).toNat zS28).f6)) && true))))))))))] (bm 31 33554431) (by kernel_rfl) (by kernel_rfl) ?_
           refine ED.keep [8, 48] [(8, pt a0 0), (48, .bool ((((bStr a1).toList == (bStr a2).toList) == ((((t98.getD (0 : Int).toNat zS28).f0) == ((t98.getD (1 : Int).toNat zS28).f0)) && ((((t98.getD (0 : Int).toNat zS28).f1) == ((t98.getD (1 : Int).toNat zS28).f1)) && ((((t98.getD (0 : Int).toNat zS28).f2) == ((t98.getD (1 : Int).toNat zS28).f2)) && ((((t98.getD (0 : Int).toNat zS28).f3) == ((t98.getD (1 : Int).toNat zS28).f3)) && ((((t98.getD (0 : Int).toNat zS28).f4) == ((t98.getD (1 : Int).toNat zS28).f4)) && ((a18 == ((t98.getD (1 : Int).toNat zS28).f5)) && ((((t98.getD (0 : Int).toNat zS28).f6) == ((t98.getD (1 : Int).toNat zS28).f6)) && true))))))))))] (by kernel_rfl) ?_
           refine ED.as' [(8, pt a0 0), (48, .bool (true))] (by simp only [encS28, sv, a9, Bool.not_true, Bool.not_false]) ?_
           refine ED.Y hN hF hC 25 5 (bm 31 67108863) (by kernel_rfl) (by kernel_rfl) rfl (fun _ _ _ hS => YO.loadBox hS 1 rfl 28 0 7 (ag (encS28 {(t98.getD (0 : Int).toNat zS28) with f5 := a18})) 49 (by kernel_rfl) (by kernel_rfl) (by kernel_rfl) (by kernel_rfl)) ?_
           have hq := trace_Text.calls b7 hS gB
           refine ED.one 26 4 (bm 31 134217727) (by kernel_rfl) (by kernel_rfl) (by kernel_rfl) (EO.callD 25 [ag (encS28 {(t98.getD (0 : Int).toNat zS28) with f5 := a18})] _ 50 (by kernel_rfl) (by kernel_rfl) (by kernel_rfl) hq ?_)
           rintro v w ⟨rfl, hS⟩
           have hC := hC.again ⟨_, _, hS.re [6, 6, 6, 6, 6] [] rfl (sub_cons 2 rfl sub_self)⟩
           refine ⟨hC, ?_⟩
           refine ED.quick hN hF hC [27, 28, 29, 30] [6] 0 [(6, .bool (decide ((a8.size : Int) > 14)))] (bm 31 2147483647) (by kernel_rfl) (by kernel_rfl) ?_
           refine ED.done (by kernel_rfl) ?_
           refine EQ.to ?_
           refine EQ.keep [6] [(6, .bool (decide ((a8.size : Int) > 14)))] (by kernel_rfl) ?_
           exact fun a ha => ⟨d7, e3, b3, b5, ha, (hS.re [6, 6, 6, 6, 6, 6, 6] [] rfl (sub_cons 2 rfl (sub_tail (sub_tail (sub_tail (sub_self))))))⟩
       ·refine EO.lit hS kS28 28 22 1 #[(0, ag (encS28 (t98.getD (1 : Int).toNat zS28)))] [ia ((t98.getD (1 : Int).toNat zS28).f0), ia ((t98.getD (1 : Int).toNat zS28).f1), ia ((t98.getD (1 : Int).toNat zS28).f2), ia ((t98.getD (1 : Int).toNat zS28).f3), ib ((t98.getD (1 : Int).toNat zS28).f4), ib ((t98.getD (1 : Int).toNat zS28).f5), ib ((t98.getD (1 : Int).toNat zS28).f6)] a6 39 (by kernel_rfl) (by kernel_rfl) (by kernel_rfl) (fun _ => (by kernel_rfl)) (by rw [b0]; rfl) (by kernel_rfl) (fun w G hr => (by rw [b0]; exact ⟨[ia ((t98.getD (1 : Int).toNat zS28).f0), ia ((t98.getD (1 : Int).toNat zS28).f1), ia ((t98.getD (1 : Int).toNat zS28).f2), ia ((t98.getD (1 : Int).toNat zS28).f3), ib ((t98.getD (1 : Int).toNat zS28).f4), ib ((t98.getD (1 : Int).toNat zS28).f5), ib ((t98.getD (1 : Int).toNat zS28).f6)], [], rfl, ⟨[ia ((t98.getD (1 : Int).toNat zS28).f0)], [ia ((t98.getD (1 : Int).toNat zS28).f1), ia ((t98.getD (1 : Int).toNat zS28).f2), ia ((t98.getD (1 : Int).toNat zS28).f3), ib ((t98.getD (1 : Int).toNat zS28).f4), ib ((t98.getD (1 : Int).toNat zS28).f5), ib ((t98.getD (1 : Int).toNat zS28).f6)], rfl, rfl, ⟨[ia ((t98.getD (1 : Int).toNat zS28).f1)], [ia ((t98.getD (1 : Int).toNat zS28).f2), ia ((t98.getD (1 : Int).toNat zS28).f3), ib ((t98.getD (1 : Int).toNat zS28).f4), ib ((t98.getD (1 : Int).toNat zS28).f5), ib ((t98.getD (1 : Int).toNat zS28).f6)], rfl, rfl, ⟨[ia ((t98.getD (1 : Int).toNat zS28).f2)], [ia ((t98.getD (1 : Int).toNat zS28).f3), ib ((t98.getD (1 : Int).toNat zS28).f4), ib ((t98.getD (1 : Int).toNat zS28).f5), ib ((t98.getD (1 : Int).toNat zS28).f6)], rfl, rfl, ⟨[ia ((t98.getD (1 : Int).toNat zS28).f3)], [ib ((t98.getD (1 : Int).toNat zS28).f4), ib ((t98.getD (1 : Int).toNat zS28).f5), ib ((t98.getD (1 : Int).toNat zS28).f6)], rfl, rfl, ⟨[ib ((t98.getD (1 : Int).toNat zS28).f4)], [ib ((t98.getD (1 : Int).toNat zS28).f5), ib ((t98.getD (1 : Int).toNat zS28).f6)], rfl, rfl, ⟨[ib ((t98.getD (1 : Int).toNat zS28).f5)], [ib ((t98.getD (1 : Int).toNat zS28).f6)], rfl, rfl, ⟨[ib ((t98.getD (1 : Int).toNat zS28).f6)], [], rfl, rfl, rfl⟩⟩⟩⟩⟩⟩⟩, rfl⟩)) ?_
        intro d2 w hS
        have hC := hC.again ⟨_, _, hS.re [6, 6, 6, 6, 6] [] rfl sub_self⟩
        refine ⟨hC, ?_⟩
        refine ED.at' (bm 31 3723263) (by kernel_rfl) ?_
        have hS := St.fr hS 1 rfl
        have hS : St B _ (Ass.own 28 kS28 (some ⟨d2, 0, none⟩) 1 a6 :: Ass.box 28 a5 (encS28 (t98.getD (1 : Int).toNat zS28)) :: Ass.box 28 a0 (encS28 {(t98.getD (0 : Int).toNat zS28) with f5 := a18}) :: Ass.own 28 kS28 (some a4) a3 t98 :: Ass.box 50 g79 [ig a14, ig a15, ig a16, ig a17] :: Ass.box 50 g78 [ig a10, ig a11, ig a12, ig a13] :: os) (Ro.sl kS28 (some ⟨b8, 0, none⟩) 1 a7 :: Ro.sl kS50 (some ⟨g96, 0, none⟩) 2 l97 :: rs) := hS.re [] [] rfl (sub_cons 0 rfl (sub_tail (sub_self)))
        have hq := trace_Put.calls d1 hS
        refine ED.one 12 13 (bm 31 3727359) (by kernel_rfl) (by kernel_rfl) (by kernel_rfl) (EO.callD 15 [sv (some ⟨b8, 0, none⟩) 1 a7] _ 36 (by kernel_rfl) (by kernel_rfl) (by kernel_rfl) hq ?_)
        rintro v w ⟨c2, c6, rfl, hS⟩
        have hC := hC.again ⟨_, _, hS.re [6, 6, 6, 6, 6] [] rfl (sub_cons 1 rfl sub_self)⟩
        refine ⟨hC, ?_⟩
        refine ED.two 13 16 12 (by kernel_rfl) (by kernel_rfl) ?_ ?_
        ·refine EO.Y (YO.bstr hS c2 c6 a1 (Rd.own 0 5 rfl) 33 9 5 37 (by kernel_rfl) (by kernel_rfl) (by kernel_rfl) (by kernel_rfl) (by kernel_rfl) (by kernel_rfl)) ?_
         have hC := hC.again ⟨_, _, hS.re [6, 6, 6, 6, 6] [] rfl (sub_cons 1 rfl sub_self)⟩
         refine ⟨hC, ?_⟩
         refine ED.at' (bm 31 3735551) (by kernel_rfl) ?_
         have hS := St.fr hS 1 rfl
         have hS : St B _ (Ass.own 5 (Kd.int .u8) c2 c6 a1 :: Ass.box 28 a5 (encS28 (t98.getD (1 : Int).toNat zS28)) :: Ass.box 28 a0 (encS28 {(t98.getD (0 : Int).toNat zS28) with f5 := a18}) :: Ass.own 28 kS28 (some a4) a3 t98 :: Ass.box 50 g79 [ig a14, ig a15, ig a16, ig a17] :: Ass.box 50 g78 [ig a10, ig a11, ig a12, ig a13] :: os) (Ro.sl kS28 (some ⟨d2, 0, none⟩) 1 a6 :: Ro.sl kS28 (some ⟨b8, 0, none⟩) 1 a7 :: Ro.sl kS50 (some ⟨g96, 0, none⟩) 2 l97 :: rs) := hS.re [] [] rfl (sub_cons 0 rfl (sub_tail (sub_self)))
         have hq := trace_Put.calls b2 hS
         refine ED.one 16 11 (bm 31 3801087) (by kernel_rfl) (by kernel_rfl) (by kernel_rfl) (EO.callD 15 [sv (some ⟨d2, 0, none⟩) 1 a6] _ 40 (by kernel_rfl) (by kernel_rfl) (by kernel_rfl) hq ?_)
         rintro v w ⟨i1, j3, rfl, hS⟩
         have hC := hC.again ⟨_, _, hS.re [6, 6, 6, 6, 6] [] rfl (sub_cons 2 rfl sub_self)⟩
         refine ⟨hC, ?_⟩
         refine ED.one 17 10 (bm 31 3932159) (by kernel_rfl) (by kernel_rfl) (by kernel_rfl) (EO.Y (YO.bstr hS i1 j3 a2 (Rd.own 0 5 rfl) 33 9 5 41 (by kernel_rfl) (by kernel_rfl) (by kernel_rfl) (by kernel_rfl) (by kernel_rfl) (by kernel_rfl)) ?_)
         have hC := hC.again ⟨_, _, hS.re [6, 6, 6, 6, 6] [] rfl (sub_cons 2 rfl sub_self)⟩
         refine ⟨hC, ?_⟩
         refine ED.quick hN hF hC [18, 22, 23, 24] [8, 48] 6 [(8, pt a0 0), (48, .bool ((((bStr a1).toList == (bStr a2).toList) == ((((t98.getD (0 : Int).toNat zS28).f0) == ((t98.getD (1 : Int).toNat zS28).f0)) && ((((t98.getD (0 : Int).toNat zS28).f1) == ((t98.getD (1 : Int).toNat zS28).f1)) && ((((t98.getD (0 : Int).toNat zS28).f2) == ((t98.getD (1 : Int).toNat zS28).f2)) && ((((t98.getD (0 : Int).toNat zS28).f3) == ((t98.getD (1 : Int).toNat zS28).f3)) && ((((t98.getD (0 : Int).toNat zS28).f4) == ((t98.getD (1 : Int).toNat zS28).f4)) && ((a18 == ((t98.getD (1 : Int).toNat zS28).f5)) && ((((t98.getD (0 : Int).toNat zS28).f6) == ((t98.getD (1 : Int).toNat zS28).f6)) && true))))))))))] (bm 31 33554431) (by kernel_rfl) (by kernel_rfl) ?_
         refine ED.keep [8, 48] [(8, pt a0 0), (48, .bool ((((bStr a1).toList == (bStr a2).toList) == ((((t98.getD (0 : Int).toNat zS28).f0) == ((t98.getD (1 : Int).toNat zS28).f0)) && ((((t98.getD (0 : Int).toNat zS28).f1) == ((t98.getD (1 : Int).toNat zS28).f1)) && ((((t98.getD (0 : Int).toNat zS28).f2) == ((t98.getD (1 : Int).toNat zS28).f2)) && ((((t98.getD (0 : Int).toNat zS28).f3) == ((t98.getD (1 : Int).toNat zS28).f3)) && ((((t98.getD (0 : Int).toNat zS28).f4) == ((t98.getD (1 : Int).toNat zS28).f4)) && ((a18 == ((t98.getD (1 : Int).toNat zS28).f5)) && ((((t98.getD (0 : Int).toNat zS28).f6) == ((t98.getD (1 : Int).toNat zS28).f6)) && true))))))))))] (by kernel_rfl) ?_
         refine ED.as' [(8, pt a0 0), (48, .bool (true))] (by simp only [encS28, sv, a9, Bool.not_true, Bool.not_false]) ?_
         refine ED.Y hN hF hC 25 5 (bm 31 67108863) (by kernel_rfl) (by kernel_rfl) rfl (fun _ _ _ hS => YO.loadBox hS 1 rfl 28 0 7 (ag (encS28 {(t98.getD (0 : Int).toNat zS28) with f5 := a18})) 49 (by kernel_rfl) (by kernel_rfl) (by kernel_rfl) (by kernel_rfl)) ?_
         have hq := trace_Text.calls b7 hS gB
         refine ED.one 26 4 (bm 31 134217727) (by kernel_rfl) (by kernel_rfl) (by kernel_rfl) (EO.callD 25 [ag (encS28 {(t98.getD (0 : Int).toNat zS28) with f5 := a18})] _ 50 (by kernel_rfl) (by kernel_rfl) (by kernel_rfl) hq ?_)
         rintro v w ⟨rfl, hS⟩
         have hC := hC.again ⟨_, _, hS.re [6, 6, 6, 6, 6] [] rfl (sub_cons 2 rfl sub_self)⟩
         refine ⟨hC, ?_⟩
         refine ED.quick hN hF hC [27, 28, 29, 30] [6] 0 [(6, .bool (decide ((a8.size : Int) > 14)))] (bm 31 2147483647) (by kernel_rfl) (by kernel_rfl) ?_
         refine ED.done (by kernel_rfl) ?_
         refine EQ.to ?_
         refine EQ.keep [6] [(6, .bool (decide ((a8.size : Int) > 14)))] (by kernel_rfl) ?_
         exact fun a ha => ⟨i1, j3, c2, c6, ha, (hS.re [6, 6, 6, 6, 6, 6, 6] [] rfl (sub_cons 2 rfl (sub_tail (sub_tail (sub_tail (sub_self))))))⟩
        ·have hS := St.fr hS 1 rfl
         have hS : St B _ (Ass.own 5 (Kd.int .u8) c2 c6 a1 :: Ass.box 28 a5 (encS28 (t98.getD (1 : Int).toNat zS28)) :: Ass.box 28 a0 (encS28 {(t98.getD (0 : Int).toNat zS28) with f5 := a18}) :: Ass.own 28 kS28 (some a4) a3 t98 :: Ass.box 50 g79 [ig a14, ig a15, ig a16, ig a17] :: Ass.box 50 g78 [ig a10, ig a11, ig a12, ig a13] :: os) (Ro.sl kS28 (some ⟨d2, 0, none⟩) 1 a6 :: Ro.sl kS28 (some ⟨b8, 0, none⟩) 1 a7 :: Ro.sl kS50 (some ⟨g96, 0, none⟩) 2 l97 :: rs) := hS.re [] [] rfl (sub_cons 0 rfl (sub_tail (sub_self)))
         have hq := trace_Put.calls b2 hS
         refine EO.callD 15 [sv (some ⟨d2, 0, none⟩) 1 a6] _ 40 (by kernel_rfl) (by kernel_rfl) (by kernel_rfl) hq ?_
         rintro v w ⟨d8, e4, rfl, hS⟩
         have hC := hC.again ⟨_, _, hS.re [6, 6, 6, 6, 6] [] rfl (sub_cons 2 rfl sub_self)⟩
         refine ⟨hC, ?_⟩
         refine ED.at' (bm 31 3792895) (by kernel_rfl) ?_
         refine ED.two 13 17 11 (by kernel_rfl) (by kernel_rfl) ?_ ?_
         ·refine EO.Y (YO.bstr hS c2 c6 a1 (Rd.own 1 5 rfl) 33 9 5 37 (by kernel_rfl) (by kernel_rfl) (by kernel_rfl) (by kernel_rfl) (by kernel_rfl) (by kernel_rfl)) ?_
          have hC := hC.again ⟨_, _, hS.re [6, 6, 6, 6, 6] [] rfl (sub_cons 2 rfl sub_self)⟩
          refine ⟨hC, ?_⟩
          refine ED.at' (bm 31 3801087) (by kernel_rfl) ?_
          refine ED.one 17 10 (bm 31 3932159) (by kernel_rfl) (by kernel_rfl) (by kernel_rfl) (EO.Y (YO.bstr hS d8 e4 a2 (Rd.own 0 5 rfl) 33 9 5 41 (by kernel_rfl) (by kernel_rfl) (by kernel_rfl) (by kernel_rfl) (by kernel_rfl) (by kernel_rfl)) ?_)
          have hC := hC.again ⟨_, _, hS.re [6, 6, 6, 6, 6] [] rfl (sub_cons 2 rfl sub_self)⟩
          refine ⟨hC, ?_⟩
          refine ED.quick hN hF hC [18, 22, 23, 24] [8, 48] 6 [(8, pt a0 0), (48, .bool ((((bStr a1).toList == (bStr a2).toList) == ((((t98.getD (0 : Int).toNat zS28).f0) == ((t98.getD (1 : Int).toNat zS28).f0)) && ((((t98.getD (0 : Int).toNat zS28).f1) == ((t98.getD (1 : Int).toNat zS28).f1)) && ((((t98.getD (0 : Int).toNat zS28).f2) == ((t98.getD (1 : Int).toNat zS28).f2)) && ((((t98.getD (0 : Int).toNat zS28).f3) == ((t98.getD (1 : Int).toNat zS28).f3)) && ((((t98.getD (0 : Int).toNat zS28).f4) == ((t98.getD (1 : Int).toNat zS28).f4)) && ((a18 == ((t98.getD (1 : Int).toNat zS28).f5)) && ((((t98.getD (0 : Int).toNat zS28).f6) == ((t98.getD (1 : Int).toNat zS28).f6)) && true))))))))))] (bm 31 33554431) (by kernel_rfl) (by kernel_rfl) ?_
          refine ED.keep [8, 48] [(8, pt a0 0), (48, .bool ((((bStr a1).toList == (bStr a2).toList) == ((((t98.getD (0 : Int).toNat zS28).f0) == ((t98.getD (1 : Int).toNat zS28).f0)) && ((((t98.getD (0 : Int).toNat zS28).f1) == ((t98.getD (1 : Int).toNat zS28).f1)) && ((((t98.getD (0 : Int).toNat zS28).f2) == ((t98.getD (1 : Int).toNat zS28).f2)) && ((((t98.getD (0 : Int).toNat zS28).f3) == ((t98.getD (1 : Int).toNat zS28).f3)) && ((((t98.getD (0 : Int).toNat zS28).f4) == ((t98.getD (1 : Int).toNat zS28).f4)) && ((a18 == ((t98.getD (1 : Int).toNat zS28).f5)) && ((((t98.getD (0 : Int).toNat zS28).f6) == ((t98.getD (1 : Int).toNat zS28).f6)) && true))))))))))] (by kernel_rfl) ?_
          refine ED.as' [(8, pt a0 0), (48, .bool (true))] (by simp only [encS28, sv, a9, Bool.not_true, Bool.not_false]) ?_
          refine ED.Y hN hF hC 25 5 (bm 31 67108863) (by kernel_rfl) (by kernel_rfl) rfl (fun _ _ _ hS => YO.loadBox hS 1 rfl 28 0 7 (ag (encS28 {(t98.getD (0 : Int).toNat zS28) with f5 := a18})) 49 (by kernel_rfl) (by kernel_rfl) (by kernel_rfl) (by kernel_rfl)) ?_
          have hq := trace_Text.calls b7 hS gB
          refine ED.one 26 4 (bm 31 134217727) (by kernel_rfl) (by kernel_rfl) (by kernel_rfl) (EO.callD 25 [ag (encS28 {(t98.getD (0 : Int).toNat zS28) with f5 := a18})] _ 50 (by kernel_rfl) (by kernel_rfl) (by kernel_rfl) hq ?_)
          rintro v w ⟨rfl, hS⟩
          have hC := hC.again ⟨_, _, hS.re [6, 6, 6, 6, 6] [] rfl (sub_cons 2 rfl sub_self)⟩
          refine ⟨hC, ?_⟩
          refine ED.quick hN hF hC [27, 28, 29, 30] [6] 0 [(6, .bool (decide ((a8.size : Int) > 14)))] (bm 31 2147483647) (by kernel_rfl) (by kernel_rfl) ?_
          refine ED.done (by kernel_rfl) ?_
          refine EQ.to ?_
          refine EQ.keep [6] [(6, .bool (decide ((a8.size : Int) > 14)))] (by kernel_rfl) ?_
          exact fun a ha => ⟨d8, e4, c2, c6, ha, (hS.re [6, 6, 6, 6, 6, 6, 6] [] rfl (sub_cons 2 rfl (sub_tail (sub_tail (sub_tail (sub_self))))))⟩
         ·refine EO.Y (YO.bstr hS d8 e4 a2 (Rd.own 0 5 rfl) 33 9 5 41 (by kernel_rfl) (by kernel_rfl) (by kernel_rfl) (by kernel_rfl) (by kernel_rfl) (by kernel_rfl)) ?_
          have hC := hC.again ⟨_, _, hS.re [6, 6, 6, 6, 6] [] rfl (sub_cons 2 rfl sub_self)⟩
          refine ⟨hC, ?_⟩
          refine ED.at' (bm 31 3923967) (by kernel_rfl) ?_
          refine ED.one 13 10 (bm 31 3932159) (by kernel_rfl) (by kernel_rfl) (by kernel_rfl) (EO.Y (YO.bstr hS c2 c6 a1 (Rd.own 1 5 rfl) 33 9 5 37 (by kernel_rfl) (by kernel_rfl) (by kernel_rfl) (by kernel_rfl) (by kernel_rfl) (by kernel_rfl)) ?_)
          have hC := hC.again ⟨_, _, hS.re [6, 6, 6, 6, 6] [] rfl (sub_cons 2 rfl sub_self)⟩
          refine ⟨hC, ?_⟩
          refine ED.quick hN hF hC [18, 22, 23, 24] [8, 48] 6 [(8, pt a0 0), (48, .bool ((((bStr a1).toList == (bStr a2).toList) == ((((t98.getD (0 : Int).toNat zS28).f0) == ((t98.getD (1 : Int).toNat zS28).f0)) && ((((t98.getD (0 : Int).toNat zS28).f1) == ((t98.getD (1 : Int).toNat zS28).f1)) && ((((t98.getD (0 : Int).toNat zS28).f2) == ((t98.getD (1 : Int).toNat zS28).f2)) && ((((t98.getD (0 : Int).toNat zS28).f3) == ((t98.getD (1 : Int).toNat zS28).f3)) && ((((t98.getD (0 : Int).toNat zS28).f4) == ((t98.getD (1 : Int).toNat zS28).f4)) && ((a18 == ((t98.getD (1 : Int).toNat zS28).f5)) && ((((t98.getD (0 : Int).toNat zS28).f6) == ((t98.getD (1 : Int).toNat zS28).f6)) && true))))))))))] (bm 31 33554431) (by kernel_rfl) (by kernel_rfl) ?_
          refine ED.keep [8, 48] [(8, pt a0 0), (48, .bool ((((bStr a1).toList == (bStr a2).toList) == ((((t98.getD (0 : Int).toNat zS28).f0) == ((t98.getD (1 : Int).toNat zS28).f0)) && ((((t98.getD (0 : Int).toNat zS28).f1) == ((t98.getD (1 : Int).toNat zS28).f1)) && ((((t98.getD (0 : Int).toNat zS28).f2) == ((t98.getD (1 : Int).toNat zS28).f2)) && ((((t98.getD (0 : Int).toNat zS28).f3) == ((t98.getD (1 : Int).toNat zS28).f3)) && ((((t98.getD (0 : Int).toNat zS28).f4) == ((t98.getD (1 : Int).toNat zS28).f4)) && ((a18 == ((t98.getD (1 : Int).toNat zS28).f5)) && ((((t98.getD (0 : Int).toNat zS28).f6) == ((t98.getD (1 : Int).toNat zS28).f6)) && true))))))))))] (by kernel_rfl) ?_
          refine ED.as' [(8, pt a0 0), (48, .bool (true))] (by simp only [encS28, sv, a9, Bool.not_true, Bool.not_false]) ?_
          refine ED.Y hN hF hC 25 5 (bm 31 67108863) (by kernel_rfl) (by kernel_rfl) rfl (fun _ _ _ hS => YO.loadBox hS 1 rfl 28 0 7 (ag (encS28 {(t98.getD (0 : Int).toNat zS28) with f5 := a18})) 49 (by kernel_rfl) (by kernel_rfl) (by kernel_rfl) (by kernel_rfl)) ?_
          have hq := trace_Text.calls b7 hS gB
          refine ED.one 26 4 (bm 31 134217727) (by kernel_rfl) (by kernel_rfl) (by kernel_rfl) (EO.callD 25 [ag (encS28 {(t98.getD (0 : Int).toNat zS28) with f5 := a18})] _ 50 (by kernel_rfl) (by kernel_rfl) (by kernel_rfl) hq ?_)
          rintro v w ⟨rfl, hS⟩
          have hC := hC.again ⟨_, _, hS.re [6, 6, 6, 6, 6] [] rfl (sub_cons 2 rfl sub_self)⟩
          refine ⟨hC, ?_⟩
          refine ED.quick hN hF hC [27, 28, 29, 30] [6] 0 [(6, .bool (decide ((a8.size : Int) > 14)))] (bm 31 2147483647) (by kernel_rfl) (by kernel_rfl) ?_
          refine ED.done (by kernel_rfl) ?_
          refine EQ.to ?_
          refine EQ.keep [6] [(6, .bool (decide ((a8.size : Int) > 14)))] (by kernel_rfl) ?_
          exact fun a ha => ⟨d8, e4, c2, c6, ha, (hS.re [6, 6, 6, 6, 6, 6, 6] [] rfl (sub_cons 2 rfl (sub_tail (sub_tail (sub_tail (sub_self))))))⟩
      ·refine EO.lit hS kS28 28 22 1 #[(0, ag (encS28 (t98.getD (1 : Int).toNat zS28)))] [ia ((t98.getD (1 : Int).toNat zS28).f0), ia ((t98.getD (1 : Int).toNat zS28).f1), ia ((t98.getD (1 : Int).toNat zS28).f2), ia ((t98.getD (1 : Int).toNat zS28).f3), ib ((t98.getD (1 : Int).toNat zS28).f4), ib ((t98.getD (1 : Int).toNat zS28).f5), ib ((t98.getD (1 : Int).toNat zS28).f6)] a6 39 (by kernel_rfl) (by kernel_rfl) (by kernel_rfl) (fun _ => (by kernel_rfl)) (by rw [b0]; rfl) (by kernel_rfl) (fun w G hr => (by rw [b0]; exact ⟨[ia ((t98.getD (1 : Int).toNat zS28).f0), ia ((t98.getD (1 : Int).toNat zS28).f1), ia ((t98.getD (1 : Int).toNat zS28).f2), ia ((t98.getD (1 : Int).toNat zS28).f3), ib ((t98.getD (1 : Int).toNat zS28).f4), ib ((t98.getD (1 : Int).toNat zS28).f5), ib ((t98.getD (1 : Int).toNat zS28).f6)], [], rfl, ⟨[ia ((t98.getD (1 : Int).toNat zS28).f0)], [ia ((t98.getD (1 : Int).toNat zS28).f1), ia ((t98.getD (1 : Int).toNat zS28).f2), ia ((t98.getD (1 : Int).toNat zS28).f3), ib ((t98.getD (1 : Int).toNat zS28).f4), ib ((t98.getD (1 : Int).toNat zS28).f5), ib ((t98.getD (1 : Int).toNat zS28).f6)], rfl, rfl, ⟨[ia ((t98.getD (1 : Int).toNat zS28).f1)], [ia ((t98.getD (1 : Int).toNat zS28).f2), ia ((t98.getD (1 : Int).toNat zS28).f3), ib ((t98.getD (1 : Int).toNat zS28).f4), ib ((t98.getD (1 : Int).toNat zS28).f5), ib ((t98.getD (1 : Int).toNat zS28).f6)], rfl, rfl, ⟨[ia ((t98.getD (1 : Int).toNat zS28).f2)], [ia ((t98.getD (1 : Int).toNat zS28).f3), ib ((t98.getD (1 : Int).toNat zS28).f4), ib ((t98.getD (1 : Int).toNat zS28).f5), ib ((t98.getD (1 : Int).toNat zS28).f6)], rfl, rfl, ⟨[ia ((t98.getD (1 : Int).toNat zS28).f3)], [ib ((t98.getD (1 : Int).toNat zS28).f4), ib ((t98.getD (1 : Int).toNat zS28).f5), ib ((t98.getD (1 : Int).toNat zS28).f6)], rfl, rfl, ⟨[ib ((t98.getD (1 : Int).toNat zS28).f4)], [ib ((t98.getD (1 : Int).toNat zS28).f5), ib ((t98.getD (1 : Int).toNat zS28).f6)], rfl, rfl, ⟨[ib ((t98.getD (1 : Int).toNat zS28).f5)], [ib ((t98.getD (1 : Int).toNat zS28).f6)], rfl, rfl, ⟨[ib ((t98.getD (1 : Int).toNat zS28).f6)], [], rfl, rfl, rfl⟩⟩⟩⟩⟩⟩⟩, rfl⟩)) ?_
       intro d3 w hS
       have hC := hC.again ⟨_, _, hS.re [5, 5, 5, 5, 5] [] rfl sub_self⟩
       refine ⟨hC, ?_⟩
       refine ED.at' (bm 31 3721215) (by kernel_rfl) ?_
       refine ED.one 11 14 (bm 31 3723263) (by kernel_rfl) (by kernel_rfl) (by kernel_rfl) (EO.lit hS kS28 28 22 1 #[(0, ag (encS28 {(t98.getD (0 : Int).toNat zS28) with f5 := a18}))] [ia ((t98.getD (0 : Int).toNat zS28).f0), ia ((t98.getD (0 : Int).toNat zS28).f1), ia ((t98.getD (0 : Int).toNat zS28).f2), ia ((t98.getD (0 : Int).toNat zS28).f3), ib ((t98.getD (0 : Int).toNat zS28).f4), ib a18, ib ((t98.getD (0 : Int).toNat zS28).f6)] a7 35 (by kernel_rfl) (by kernel_rfl) (by kernel_rfl) (fun _ => (by kernel_rfl)) (by rw [d0]; rfl) (by kernel_rfl) (fun w G hr => (by rw [d0]; exact ⟨[ia ((t98.getD (0 : Int).toNat zS28).f0), ia ((t98.getD (0 : Int).toNat zS28).f1), ia ((t98.getD (0 : Int).toNat zS28).f2), ia ((t98.getD (0 : Int).toNat zS28).f3), ib ((t98.getD (0 : Int).toNat zS28).f4), ib a18, ib ((t98.getD (0 : Int).toNat zS28).f6)], [], rfl, ⟨[ia ((t98.getD (0 : Int).toNat zS28).f0)], [ia ((t98.getD (0 : Int).toNat zS28).f1), ia ((t98.getD (0 : Int).toNat zS28).f2), ia ((t98.getD (0 : Int).toNat zS28).f3), ib ((t98.getD (0 : Int).toNat zS28).f4), ib a18, ib ((t98.getD (0 : Int).toNat zS28).f6)], rfl, rfl, ⟨[ia ((t98.getD (0 : Int).toNat zS28).f1)], [ia ((t98.getD (0 : Int).toNat zS28).f2), ia ((t98.getD (0 : Int).toNat zS28).f3), ib ((t98.getD (0 : Int).toNat zS28).f4), ib a18, ib ((t98.getD (0 : Int).toNat zS28).f6)], rfl, rfl, ⟨[ia ((t98.getD (0 : Int).toNat zS28).f2)], [ia ((t98.getD (0 : Int).toNat zS28).f3), ib ((t98.getD (0 : Int).toNat zS28).f4), ib a18, ib ((t98.getD (0 : Int).toNat zS28).f6)], rfl, rfl, ⟨[ia ((t98.getD (0 : Int).toNat zS28).f3)], [ib ((t98.getD (0 : Int).toNat zS28).f4), ib a18, ib ((t98.getD (0 : Int).toNat zS28).f6)], rfl, rfl, ⟨[ib ((t98.getD (0 : Int).toNat zS28).f4)], [ib a18, ib ((t98.getD (0 : Int).toNat zS28).f6)], rfl, rfl, ⟨[ib a18], [ib ((t98.getD (0 : Int).toNat zS28).f6)], rfl, rfl, ⟨[ib ((t98.getD (0 : Int).toNat zS28).f6)], [], rfl, rfl, rfl⟩⟩⟩⟩⟩⟩⟩, rfl⟩)) ?_)
       intro g1 w hS
       have hC := hC.again ⟨_, _, hS.re [6, 6, 6, 6, 6] [] rfl sub_self⟩
       refine ⟨hC, ?_⟩
       have hS := St.fr hS 0 rfl
       have hS : St B _ (Ass.own 28 kS28 (some ⟨d3, 0, none⟩) 1 a6 :: Ass.box 28 a5 (encS28 (t98.getD (1 : Int).toNat zS28)) :: Ass.box 28 a0 (encS28 {(t98.getD (0 : Int).toNat zS28) with f5 := a18}) :: Ass.own 28 kS28 (some a4) a3 t98 :: Ass.box 50 g79 [ig a14, ig a15, ig a16, ig a17] :: Ass.box 50 g78 [ig a10, ig a11, ig a12, ig a13] :: os) (Ro.sl kS28 (some ⟨g1, 0, none⟩) 1 a7 :: Ro.sl kS50 (some ⟨g96, 0, none⟩) 2 l97 :: rs) := hS.re [] [] rfl (sub_cons 0 rfl (sub_tail (sub_self)))
       have hq := trace_Put.calls d1 hS
       refine ED.one 12 13 (bm 31 3727359) (by kernel_rfl) (by kernel_rfl) (by kernel_rfl) (EO.callD 15 [sv (some ⟨g1, 0, none⟩) 1 a7] _ 36 (by kernel_rfl) (by kernel_rfl) (by kernel_rfl) hq ?_)
       rintro v w ⟨c3, c7, rfl, hS⟩
       have hC := hC.again ⟨_, _, hS.re [6, 6, 6, 6, 6] [] rfl (sub_cons 1 rfl sub_self)⟩
       refine ⟨hC, ?_⟩
       refine ED.two 13 16 12 (by kernel_rfl) (by kernel_rfl) ?_ ?_
       ·refine EO.Y (YO.bstr hS c3 c7 a1 (Rd.own 0 5 rfl) 33 9 5 37 (by kernel_rfl) (by kernel_rfl) (by kernel_rfl) (by kernel_rfl) (by kernel_rfl) (by kernel_rfl)) ?_
        have hC := hC.again ⟨_, _, hS.re [6, 6, 6, 6, 6] [] rfl (sub_cons 1 rfl sub_self)⟩
        refine ⟨hC, ?_⟩
        refine ED.at' (bm 31 3735551) (by kernel_rfl) ?_
        have hS := St.fr hS 1 rfl
        have hS : St B _ (Ass.own 5 (Kd.int .u8) c3 c7 a1 :: Ass.box 28 a5 (encS28 (t98.getD (1 : Int).toNat zS28)) :: Ass.box 28 a0 (encS28 {(t98.getD (0 : Int).toNat zS28) with f5 := a18}) :: Ass.own 28 kS28 (some a4) a3 t98 :: Ass.box 50 g79 [ig a14, ig a15, ig a16, ig a17] :: Ass.box 50 g78 [ig a10, ig a11, ig a12, ig a13] :: os) (Ro.sl kS28 (some ⟨d3, 0, none⟩) 1 a6 :: Ro.sl kS28 (some ⟨g1, 0, none⟩) 1 a7 :: Ro.sl kS50 (some ⟨g96, 0, none⟩) 2 l97 :: rs) := hS.re [] [] rfl (sub_cons 0 rfl (sub_tail (sub_self)))
        have hq := trace_Put.calls b2 hS
        refine ED.one 16 11 (bm 31 3801087) (by kernel_rfl) (by kernel_rfl) (by kernel_rfl) (EO.callD 15 [sv (some ⟨d3, 0, none⟩) 1 a6] _ 40 (by kernel_rfl) (by kernel_rfl) (by kernel_rfl) hq ?_)
        rintro v w ⟨i2, j4, rfl, hS⟩
        have hC := hC.again ⟨_, _, hS.re [6, 6, 6, 6, 6] [] rfl (sub_cons 2 rfl sub_self)⟩
        refine ⟨hC, ?_⟩
        refine ED.one 17 10 (bm 31 3932159) (by kernel_rfl) (by kernel_rfl) (by kernel_rfl) (EO.Y (YO.bstr hS i2 j4 a2 (Rd.own 0 5 rfl) 33 9 5 41 (by kernel_rfl) (by kernel_rfl) (by kernel_rfl) (by kernel_rfl) (by kernel_rfl) (by kernel_rfl)) ?_)
        have hC := hC.again ⟨_, _, hS.re [6, 6, 6, 6, 6] [] rfl (sub_cons 2 rfl sub_self)⟩
        refine ⟨hC, ?_⟩
        refine ED.quick hN hF hC [18, 22, 23, 24] [8, 48] 6 [(8, pt a0 0), (48, .bool ((((bStr a1).toList == (bStr a2).toList) == ((((t98.getD (0 : Int).toNat zS28).f0) == ((t98.getD (1 : Int).toNat zS28).f0)) && ((((t98.getD (0 : Int).toNat zS28).f1) == ((t98.getD (1 : Int).toNat zS28).f1)) && ((((t98.getD (0 : Int).toNat zS28).f2) == ((t98.getD (1 : Int).toNat zS28).f2)) && ((((t98.getD (0 : Int).toNat zS28).f3) == ((t98.getD (1 : Int).toNat zS28).f3)) && ((((t98.getD (0 : Int).toNat zS28).f4) == ((t98.getD (1 : Int).toNat zS28).f4)) && ((a18 == ((t98.getD (1 : Int).toNat zS28).f5)) && ((((t98.getD (0 : Int).toNat zS28).f6) == ((t98.getD (1 : Int).toNat zS28).f6)) && true))))))))))] (bm 31 33554431) (by kernel_rfl) (by kernel_rfl) ?_
        refine ED.keep [8, 48] [(8, pt a0 0), (48, .bool ((((bStr a1).toList == (bStr a2).toList) == ((((t98.getD (0 : Int).toNat zS28).f0) == ((t98.getD (1 : Int).toNat zS28).f0)) && ((((t98.getD (0 : Int).toNat zS28).f1) == ((t98.getD (1 : Int).toNat zS28).f1)) && ((((t98.getD (0 : Int).toNat zS28).f2) == ((t98.getD (1 : Int).toNat zS28).f2)) && ((((t98.getD (0 : Int).toNat zS28).f3) == ((t98.getD (1 : Int).toNat zS28).f3)) && ((((t98.getD (0 : Int).toNat zS28).f4) == ((t98.getD (1 : Int).toNat zS28).f4)) && ((a18 == ((t98.getD (1 : Int).toNat zS28).f5)) && ((((t98.getD (0 : Int).toNat zS28).f6) == ((t98.getD (1 : Int).toNat zS28).f6)) && true))))))))))] (by kernel_rfl) ?_
        refine ED.as' [(8, pt a0 0), (48, .bool (true))] (by simp only [encS28, sv, a9, Bool.not_true, Bool.not_false]) ?_
        refine ED.Y hN hF hC 25 5 (bm 31 67108863) (by kernel_rfl) (by kernel_rfl) rfl (fun _ _ _ hS => YO.loadBox hS 1 rfl 28 0 7 (ag (encS28 {(t98.getD (0 : Int).toNat zS28) with f5 := a18})) 49 (by kernel_rfl) (by kernel_rfl) (by kernel_rfl) (by kernel_rfl)) ?_
        have hq := trace_Text.calls b7 hS gB
        refine ED.one 26 4 (bm 31 134217727) (by kernel_rfl) (by kernel_rfl) (by kernel_rfl) (EO.callD 25 [ag (encS28 {(t98.getD (0 : Int).toNat zS28) with f5 := a18})] _ 50 (by kernel_rfl) (by kernel_rfl) (by kernel_rfl) hq ?_)
        rintro v w ⟨rfl, hS⟩
        have hC := hC.again ⟨_, _, hS.re [6, 6, 6, 6, 6] [] rfl (sub_cons 2 rfl sub_self)⟩
        refine ⟨hC, ?_⟩
        refine ED.quick hN hF hC [27, 28, 29, 30] [6] 0 [(6, .bool (decide ((a8.size : Int) > 14)))] (bm 31 2147483647) (by kernel_rfl) (by kernel_rfl) ?_
        refine ED.done (by kernel_rfl) ?_
        refine EQ.to ?_
        refine EQ.keep [6] [(6, .bool (decide ((a8.size : Int) > 14)))] (by kernel_rfl) ?_
        exact fun a ha => ⟨i2, j4, c3, c7, ha, (hS.re [6, 6, 6, 6, 6, 6, 6] [] rfl (sub_cons 2 rfl (sub_tail (sub_tail (sub_tail (sub_self))))))⟩
       ·have hS := St.fr hS 1 rfl
        have hS : St B _ (Ass.own 5 (Kd.int .u8) c3 c7 a1 :: Ass.box 28 a5 (encS28 (t98.getD (1 : Int).toNat zS28)) :: Ass.box 28 a0 (encS28 {(t98.getD (0 : Int).toNat zS28) with f5 := a18}) :: Ass.own 28 kS28 (some a4) a3 t98 :: Ass.box 50 g79 [ig a14, ig a15, ig a16, ig a17] :: Ass.box 50 g78 [ig a10, ig a11, ig a12, ig a13] :: os) (Ro.sl kS28 (some ⟨d3, 0, none⟩) 1 a6 :: Ro.sl kS28 (some ⟨g1, 0, none⟩) 1 a7 :: Ro.sl kS50 (some ⟨g96, 0, none⟩) 2 l97 :: rs) := hS.re [] [] rfl (sub_cons 0 rfl (sub_tail (sub_self)))
        have hq := trace_Put.calls b2 hS
        refine EO.callD 15 [sv (some ⟨d3, 0, none⟩) 1 a6] _ 40 (by kernel_rfl) (by kernel_rfl) (by kernel_rfl) hq ?_
        rintro v w ⟨d9, e5, rfl, hS⟩
        have hC := hC.again ⟨_, _, hS.re [6, 6, 6, 6, 6] [] rfl (sub_cons 2 rfl sub_self)⟩
        refine ⟨hC, ?_⟩
        refine ED.at' (bm 31 3792895) (by kernel_rfl) ?_
        refine ED.two 13 17 11 (by kernel_rfl) (by kernel_rfl) ?_ ?_
        ·refine EO.Y (YO.bstr hS c3 c7 a1 (Rd.own 1 5 rfl) 33 9 5 37 (by kernel_rfl) (by kernel_rfl) (by kernel_rfl) (by kernel_rfl) (by kernel_rfl) (by kernel_rfl)) ?_
         have hC := hC.again ⟨_, _, hS.re [6, 6, 6, 6, 6] [] rfl (sub_cons 2 rfl sub_self)⟩
         refine ⟨hC, ?_⟩
         refine ED.at' (bm 31 3801087) (by kernel_rfl) ?_
         refine ED.one 17 10 (bm 31 3932159) (by kernel_rfl) (by kernel_rfl) (by kernel_rfl) (EO.Y (YO.bstr hS d9 e5 a2 (Rd.own 0 5 rfl) 33 9 5 41 (by kernel_rfl) (by kernel_rfl) (by kernel_rfl) (by kernel_rfl) (by kernel_rfl) (by kernel_rfl)) ?_)
         have hC := hC.again ⟨_, _, hS.re [6, 6, 6, 6, 6] [] rfl (sub_cons 2 rfl sub_self)⟩
         refine ⟨hC, ?_⟩
         refine ED.quick hN hF hC [18, 22, 23, 24] [8, 48] 6 [(8, pt a0 0), (48, .bool ((((bStr a1).toList == (bStr a2).toList) == ((((t98.getD (0 : Int).toNat zS28).f0) == ((t98.getD (1 : Int).toNat zS28).f0)) && ((((t98.getD (0 : Int).toNat zS28).f1) == ((t98.getD (1 : Int).toNat zS28).f1)) && ((((t98.getD (0 : Int).toNat zS28).f2) == ((t98.getD (1 : Int).toNat zS28).f2)) && ((((t98.getD (0 : Int).toNat zS28).f3) == ((t98.getD (1 : Int).toNat zS28).f3)) && ((((t98.getD (0 : Int).toNat zS28).f4) == ((t98.getD (1 : Int).toNat zS28).f4)) && ((a18 == ((t98.getD (1 : Int).toNat zS28).f5)) && ((((t98.getD (0 : Int).toNat zS28).f6) == ((t98.getD (1 : Int).toNat zS28).f6)) && true))))))))))] (bm 31 33554431) (by kernel_rfl) (by kernel_rfl) ?_
         refine ED.keep [8, 48] [(8, pt a0 0), (48, .bool ((((bStr a1).toList == (bStr a2).toList) == ((((t98.getD (0 : Int).toNat zS28).f0) == ((t98.getD (1 : Int).toNat zS28).f0)) && ((((t98.getD (0 : Int).toNat zS28).f1) == ((t98.getD (1 : Int).toNat zS28).f1)) && ((((t98.getD (0 : Int).toNat zS28).f2) == ((t98.getD (1 : Int).toNat zS28).f2)) && ((((t98.getD (0 : Int).toNat zS28).f3) == ((t98.getD (1 : Int).toNat zS28).f3)) && ((((t98.getD (0 : Int).toNat zS28).f4) == ((t98.getD (1 : Int).toNat zS28).f4)) && ((a18 == ((t98.getD (1 : Int).toNat zS28).f5)) && ((((t98.getD (0 : Int).toNat zS28).f6) == ((t98.getD (1 : Int).toNat zS28).f6)) && true))))))))))] (by kernel_rfl) ?_
         refine ED.as' [(8, pt a0 0), (48, .bool (true))] (by simp only [encS28, sv, a9, Bool.not_true, Bool.not_false]) ?_
         refine ED.Y hN hF hC 25 5 (bm 31 67108863) (by kernel_rfl) (by kernel_rfl) rfl (fun _ _ _ hS => YO.loadBox hS 1 rfl 28 0 7 (ag (encS28 {(t98.getD (0 : Int).toNat zS28) with f5 := a18})) 49 (by kernel_rfl) (by kernel_rfl) (by kernel_rfl) (by kernel_rfl)) ?_
         have hq := trace_Text.calls b7 hS gB
         refine ED.one 26 4 (bm 31 134217727) (by kernel_rfl) (by kernel_rfl) (by kernel_rfl) (EO.callD 25 [ag (encS28 {(t98.getD (0 : Int).toNat zS28) with f5 := a18})] _ 50 (by kernel_rfl) (by kernel_rfl) (by kernel_rfl) hq ?_)
         rintro v w ⟨rfl, hS⟩
         have hC := hC.again ⟨_, _, hS.re [6, 6, 6, 6, 6] [] rfl (sub_cons 2 rfl sub_self)⟩
         refine ⟨hC, ?_⟩
         refine ED.quick hN hF hC [27, 28, 29, 30] [6] 0 [(6, .bool (decide ((a8.size : Int) > 14)))] (bm 31 2147483647) (by kernel_rfl) (by kernel_rfl) ?_
         refine ED.done (by kernel_rfl) ?_
         refine EQ.to ?_
         refine EQ.keep [6] [(6, .bool (decide ((a8.size : Int) > 14)))] (by kernel_rfl) ?_
         exact fun a ha => ⟨d9, e5, c3, c7, ha, (hS.re [6, 6, 6, 6, 6, 6, 6] [] rfl (sub_cons 2 rfl (sub_tail (sub_tail (sub_tail (sub_self))))))⟩
        ·refine EO.Y (YO.bstr hS d9 e5 a2 (Rd.own 0 5 rfl) 33 9 5 41 (by kernel_rfl) (by kernel_rfl) (by kernel_rfl) (by kernel_rfl) (by kernel_rfl) (by kernel_rfl)) ?_
         have hC := hC.again ⟨_, _, hS.re [6, 6, 6, 6, 6] [] rfl (sub_cons 2 rfl sub_self)⟩
         refine ⟨hC, ?_⟩
         refine ED.at' (bm 31 3923967) (by kernel_rfl) ?_
         refine ED.one 13 10 (bm 31 3932159) (by kernel_rfl) (by kernel_rfl) (by kernel_rfl) (EO.Y (YO.bstr hS c3 c7 a1 (Rd.own 1 5 rfl) 33 9 5 37 (by kernel_rfl) (by kernel_rfl) (by kernel_rfl) (by kernel_rfl) (by kernel_rfl) (by kernel_rfl)) ?_)
         have hC := hC.again ⟨_, _, hS.re [6, 6, 6, 6, 6] [] rfl (sub_cons 2 rfl sub_self)⟩
         refine ⟨hC, ?_⟩
         refine ED.quick hN hF hC [18, 22, 23, 24] [8, 48] 6 [(8, pt a0 0), (48, .bool ((((bStr a1).toList == (bStr a2).toList) == ((((t98.getD (0 : Int).toNat zS28).f0) == ((t98.getD (1 : Int).toNat zS28).f0)) && ((((t98.getD (0 : Int).toNat zS28).f1) == ((t98.getD (1 : Int).toNat zS28).f1)) && ((((t98.getD (0 : Int).toNat zS28).f2) == ((t98.getD (1 : Int).toNat zS28).f2)) && ((((t98.getD (0 : Int).toNat zS28).f3) == ((t98.getD (1 : Int).toNat zS28).f3)) && ((((t98.getD (0 : Int).toNat zS28).f4) == ((t98.getD (1 : Int).toNat zS28).f4)) && ((a18 == ((t98.getD (1 : Int).toNat zS28).f5)) && ((((t98.getD (0 : Int).toNat zS28).f6) == ((t98.getD (1 : Int).toNat zS28).f6)) && true))))))))))] (bm 31 33554431) (by kernel_rfl) (by kernel_rfl) ?_
         refine ED.keep [8, 48] [(8, pt a0 0), (48, .bool ((((bStr a1).toList == (bStr a2).toList) == ((((t98.getD (0 : Int).toNat zS28).f0) == ((t98.getD (1 : Int).toNat zS28).f0)) && ((((t98.getD (0 : Int).toNat zS28).f1) == ((t98.getD (1 : Int).toNat zS28).f1)) && ((((t98.getD (0 : Int).toNat zS28).f2) == ((t98.getD (1 : Int).toNat zS28).f2)) && ((((t98.getD (0 : Int).toNat zS28).f3) == ((t98.getD (1 : Int).toNat zS28).f3)) && ((((t98.getD (0 : Int).toNat zS28).f4) == ((t98.getD (1 : Int).toNat zS28).f4)) && ((a18 == ((t98.getD (1 : Int).toNat zS28).f5)) && ((((t98.getD (0 : Int).toNat zS28).f6) == ((t98.getD (1 : Int).toNat zS28).f6)) && true))))))))))] (by kernel_rfl) ?_
         refine ED.as' [(8, pt a0 0), (48, .bool (true))] (by simp only [encS28, sv, a9, Bool.not_true, Bool.not_false]) ?_
         refine ED.Y hN hF hC 25 5 (bm 31 67108863) (by kernel_rfl) (by kernel_rfl) rfl (fun _ _ _ hS => YO.loadBox hS 1 rfl 28 0 7 (ag (encS28 {(t98.getD (0 : Int).toNat zS28) with f5 := a18})) 49 (by kernel_rfl) (by kernel_rfl) (by kernel_rfl) (by kernel_rfl)) ?_
         have hq := trace_Text.calls b7 hS gB
         refine ED.one 26 4 (bm 31 134217727) (by kernel_rfl) (by kernel_rfl) (by kernel_rfl) (EO.callD 25 [ag (encS28 {(t98.getD (0 : Int).toNat zS28) with f5 := a18})] _ 50 (by kernel_rfl) (by kernel_rfl) (by kernel_rfl) hq ?_)
         rintro v w ⟨rfl, hS⟩
         have hC := hC.again ⟨_, _, hS.re [6, 6, 6, 6, 6] [] rfl (sub_cons 2 rfl sub_self)⟩
         refine ⟨hC, ?_⟩
         refine ED.quick hN hF hC [27, 28, 29, 30] [6] 0 [(6, .bool (decide ((a8.size : Int) > 14)))] (bm 31 2147483647) (by kernel_rfl) (by kernel_rfl) ?_
         refine ED.done (by kernel_rfl) ?_
         refine EQ.to ?_
         refine EQ.keep [6] [(6, .bool (decide ((a8.size : Int) > 14)))] (by kernel_rfl) ?_
         exact fun a ha => ⟨d9, e5, c3, c7, ha, (hS.re [6, 6, 6, 6, 6, 6, 6] [] rfl (sub_cons 2 rfl (sub_tail (sub_tail (sub_tail (sub_self))))))⟩
     ·obtain ⟨g7, i9, g8, j0, ha, hS⟩ := hI
      refine EQ.at ?_ a ha
      clear ha a
      refine EQ.code ?_
      refine EW.ret (by kernel_rfl) ?_
      obtain rfl := Option.some.inj H
      exact EQ.leave (.bool (decide ((a8.size : Int) > 14))) (by kernel_rfl) ⟨_, rfl, rfl, (hS.re [] [0, 0, 0, 0, 0, 0, 0] rfl (sub_tail (sub_self)))⟩
    rw [if_neg a9] at H
    refine EW.mt (fun a w => ∃ i3 : Option Addr, ∃ j5 : Nat, ∃ i4 : Option Addr, ∃ j6 : Nat, Sat 54 [(6, .bool (false))] a ∧ St B w (Ass.own 5 (Kd.int .u8) i3 j5 a2 :: Ass.own 5 (Kd.int .u8) i4 j6 a1 :: Ass.box 28 a5 (encS28 (t98.getD (1 : Int).toNat zS28)) :: Ass.box 28 a0 (encS28 {(t98.getD (0 : Int).toNat zS28) with f5 := a18}) :: Ass.own 28 kS28 (some a4) a3 t98 :: Ass.box 50 g79 [ig a14, ig a15, ig a16, ig a17] :: Ass.box 50 g78 [ig a10, ig a11, ig a12, ig a13] :: os) (Ro.sl kS50 (some ⟨g96, 0, none⟩) 2 l97 :: rs)) (by kernel_rfl) ?_ (fun a w hI => ?_)
    ·have hS := hS.drew
     refine EW.dr (B := B) [Ass.box 28 a5 (encS28 (t98.getD (1 : Int).toNat zS28)), Ass.box 28 a0 (encS28 {(t98.getD (0 : Int).toNat zS28) with f5 := a18}), Ass.own 28 kS28 (some a4) a3 t98, Ass.box 50 g79 [ig a14, ig a15, ig a16, ig a17], Ass.box 50 g78 [ig a10, ig a11, ig a12, ig a13]] [Ro.sl kS50 (some ⟨g96, 0, none⟩) 2 l97] (by kernel_rfl) (by kernel_rfl) ?_
     have hN : Region.noSelect Cd6.r.r.r.r.r.l.ops = true := (by kernel_rfl)
     have hF : freeAll Cd6.r.r.r.r.r.l.ops = true := (by kernel_rfl)
     have hC : Core B [Ass.box 28 a5 (encS28 (t98.getD (1 : Int).toNat zS28)), Ass.box 28 a0 (encS28 {(t98.getD (0 : Int).toNat zS28) with f5 := a18}), Ass.own 28 kS28 (some a4) a3 t98, Ass.box 50 g79 [ig a14, ig a15, ig a16, ig a17], Ass.box 50 g78 [ig a10, ig a11, ig a12, ig a13]] [Ro.sl kS50 (some ⟨g96, 0, none⟩) 2 l97] _ := ⟨_, _, hS⟩
     refine ED.Y hN hF hC 0 30 (bm 31 1) (by kernel_rfl) (by kernel_rfl) rfl (fun _ _ _ hS => YO.loadBox hS 1 rfl 28 0 7 (ag (encS28 {(t98.getD (0 : Int).toNat zS28) with f5 := a18})) 24 (by kernel_rfl) (by kernel_rfl) (by kernel_rfl) (by kernel_rfl)) ?_
     refine ED.Y hN hF hC 2 29 (bm 31 5) (by kernel_rfl) (by kernel_rfl) rfl (fun _ _ _ hS => YO.loadBox hS 0 rfl 28 0 7 (ag (encS28 (t98.getD (1 : Int).toNat zS28))) 26 (by kernel_rfl) (by kernel_rfl) (by kernel_rfl) (by kernel_rfl)) ?_
     refine ED.Y hN hF hC 5 28 (bm 31 37) (by kernel_rfl) (by kernel_rfl) rfl (fun _ _ _ hS => YO.loadBox hS 1 rfl 28 0 7 (ag (encS28 {(t98.getD (0 : Int).toNat zS28) with f5 := a18})) 29 (by kernel_rfl) (by kernel_rfl) (by kernel_rfl) (by kernel_rfl)) ?_
     refine ED.Y hN hF hC 6 27 (bm 31 101) (by kernel_rfl) (by kernel_rfl) rfl (fun _ _ _ hS => YO.loadBox hS 0 rfl 28 0 7 (ag (encS28 (t98.getD (1 : Int).toNat zS28))) 30 (by kernel_rfl) (by kernel_rfl) (by kernel_rfl) (by kernel_rfl)) ?_
     refine ED.Y hN hF hC 7 26 (bm 31 229) (by kernel_rfl) (by kernel_rfl) rfl (fun _ _ _ hS => YO.eqAg .eql 28 (.tmp 29) (.tmp 30) #[ia ((t98.getD (0 : Int).toNat zS28).f0), ia ((t98.getD (0 : Int).toNat zS28).f1), ia ((t98.getD (0 : Int).toNat zS28).f2), ia ((t98.getD (0 : Int).toNat zS28).f3), ib ((t98.getD (0 : Int).toNat zS28).f4), ib a18, ib ((t98.getD (0 : Int).toNat zS28).f6)] #[ia ((t98.getD (1 : Int).toNat zS28).f0), ia ((t98.getD (1 : Int).toNat zS28).f1), ia ((t98.getD (1 : Int).toNat zS28).f2), ia ((t98.getD (1 : Int).toNat zS28).f3), ib ((t98.getD (1 : Int).toNat zS28).f4), ib ((t98.getD (1 : Int).toNat zS28).f5), ib ((t98.getD (1 : Int).toNat zS28).f6)] ((((t98.getD (0 : Int).toNat zS28).f0) == ((t98.getD (1 : Int).toNat zS28).f0)) && ((((t98.getD (0 : Int).toNat zS28).f1) == ((t98.getD (1 : Int).toNat zS28).f1)) && ((((t98.getD (0 : Int).toNat zS28).f2) == ((t98.getD (1 : Int).toNat zS28).f2)) && ((((t98.getD (0 : Int).toNat zS28).f3) == ((t98.getD (1 : Int).toNat zS28).f3)) && ((((t98.getD (0 : Int).toNat zS28).f4) == ((t98.getD (1 : Int).toNat zS28).f4)) && ((a18 == ((t98.getD (1 : Int).toNat zS28).f5)) && ((((t98.getD (0 : Int).toNat zS28).f6) == ((t98.getD (1 : Int).toNat zS28).f6)) && true))))))) (((((t98.getD (0 : Int).toNat zS28).f0) == ((t98.getD (1 : Int).toNat zS28).f0)) && ((((t98.getD (0 : Int).toNat zS28).f1) == ((t98.getD (1 : Int).toNat zS28).f1)) && ((((t98.getD (0 : Int).toNat zS28).f2) == ((t98.getD (1 : Int).toNat zS28).f2)) && ((((t98.getD (0 : Int).toNat zS28).f3) == ((t98.getD (1 : Int).toNat zS28).f3)) && ((((t98.getD (0 : Int).toNat zS28).f4) == ((t98.getD (1 : Int).toNat zS28).f4)) && ((a18 == ((t98.getD (1 : Int).toNat zS28).f5)) && ((((t98.getD (0 : Int).toNat zS28).f6) == ((t98.getD (1 : Int).toNat zS28).f6)) && true)))))))) 31 (by kernel_rfl) (by kernel_rfl) (by kernel_rfl) (by kernel_rfl) (by kernel_rfl) (.inl ⟨rfl, rfl⟩)) ?_
     have hq := trace_Text.calls g5 hS gB
     refine ED.one 1 25 (bm 31 231) (by kernel_rfl) (by kernel_rfl) (by kernel_rfl) (EO.callD 25 [ag (encS28 {(t98.getD (0 : Int).toNat zS28) with f5 := a18})] _ 25 (by kernel_rfl) (by kernel_rfl) (by kernel_rfl) hq ?_)
     rintro v w ⟨rfl, hS⟩
     have hC := hC.again ⟨_, _, hS⟩
     refine ⟨hC, ?_⟩
     have hq := trace_Text.calls g6 hS gB
     refine ED.one 3 24 (bm 31 239) (by kernel_rfl) (by kernel_rfl) (by kernel_rfl) (EO.callD 25 [ag (encS28 (t98.getD (1 : Int).toNat zS28))] _ 27 (by kernel_rfl) (by kernel_rfl) (by kernel_rfl) hq ?_)
     rintro v w ⟨rfl, hS⟩
     have hC := hC.again ⟨_, _, hS⟩
     refine ⟨hC, ?_⟩
     refine ED.quick hN hF hC [4, 8, 9] [8, 9, 33] 21 [(8, pt a0 0), (9, pt a5 0), (33, .bool (((c0.toList == c1.toList) == ((((t98.getD (0 : Int).toNat zS28).f0) == ((t98.getD (1 : Int).toNat zS28).f0)) && ((((t98.getD (0 : Int).toNat zS28).f1) == ((t98.getD (1 : Int).toNat zS28).f1)) && ((((t98.getD (0 : Int).toNat zS28).f2) == ((t98.getD (1 : Int).toNat zS28).f2)) && ((((t98.getD (0 : Int).toNat zS28).f3) == ((t98.getD (1 : Int).toNat zS28).f3)) && ((((t98.getD (0 : Int).toNat zS28).f4) == ((t98.getD (1 : Int).toNat zS28).f4)) && ((a18 == ((t98.getD (1 : Int).toNat zS28).f5)) && ((((t98.getD (0 : Int).toNat zS28).f6) == ((t98.getD (1 : Int).toNat zS28).f6)) && true))))))))))] (bm 31 1023) (by kernel_rfl) (by kernel_rfl) ?_
     refine ED.keep [8, 9, 33] [(8, pt a0 0), (9, pt a5 0), (33, .bool (((c0.toList == c1.toList) == ((((t98.getD (0 : Int).toNat zS28).f0) == ((t98.getD (1 : Int).toNat zS28).f0)) && ((((t98.getD (0 : Int).toNat zS28).f1) == ((t98.getD (1 : Int).toNat zS28).f1)) && ((((t98.getD (0 : Int).toNat zS28).f2) == ((t98.getD (1 : Int).toNat zS28).f2)) && ((((t98.getD (0 : Int).toNat zS28).f3) == ((t98.getD (1 : Int).toNat zS28).f3)) && ((((t98.getD (0 : Int).toNat zS28).f4) == ((t98.getD (1 : Int).toNat zS28).f4)) && ((a18 == ((t98.getD (1 : Int).toNat zS28).f5)) && ((((t98.getD (0 : Int).toNat zS28).f6) == ((t98.getD (1 : Int).toNat zS28).f6)) && true))))))))))] (by kernel_rfl) ?_
     refine ED.as' [(8, pt a0 0), (9, pt a5 0), (33, .bool (true))] (by simp only [encS28, sv, d6, Bool.not_true, Bool.not_false]) ?_
     refine ED.Y hN hF hC 10 20 (bm 31 2047) (by kernel_rfl) (by kernel_rfl) rfl (fun _ _ _ hS => YO.loadBox hS 1 rfl 28 0 7 (ag (encS28 {(t98.getD (0 : Int).toNat zS28) with f5 := a18})) 34 (by kernel_rfl) (by kernel_rfl) (by kernel_rfl) (by kernel_rfl)) ?_
     refine ED.Y hN hF hC 14 19 (bm 31 18431) (by kernel_rfl) (by kernel_rfl) rfl (fun _ _ _ hS => YO.loadBox hS 0 rfl 28 0 7 (ag (encS28 (t98.getD (1 : Int).toNat zS28))) 38 (by kernel_rfl) (by kernel_rfl) (by kernel_rfl) (by kernel_rfl)) ?_
     refine ED.Y hN hF hC 19 18 (bm 31 542719) (by kernel_rfl) (by kernel_rfl) rfl (fun _ _ _ hS => YO.loadBox hS 1 rfl 28 0 7 (ag (encS28 {(t98.getD (0 : Int).toNat zS28) with f5 := a18})) 43 (by kernel_rfl) (by kernel_rfl) (by kernel_rfl) (by kernel_rfl)) ?_
     refine ED.Y hN hF hC 20 17 (bm 31 1591295) (by kernel_rfl) (by kernel_rfl) rfl (fun _ _ _ hS => YO.loadBox hS 0 rfl 28 0 7 (ag (encS28 (t98.getD (1 : Int).toNat zS28))) 44 (by kernel_rfl) (by kernel_rfl) (by kernel_rfl) (by kernel_rfl)) ?_
     refine ED.Y hN hF hC 21 16 (bm 31 3688447) (by kernel_rfl) (by kernel_rfl) rfl (fun _ _ _ hS => YO.eqAg .eql 28 (.tmp 43) (.tmp 44) #[ia ((t98.getD (0 : Int).toNat zS28).f0), ia ((t98.getD (0 : Int).toNat zS28).f1), ia ((t98.getD (0 : Int).toNat zS28).f2), ia ((t98.getD (0 : Int).toNat zS28).f3), ib ((t98.getD (0 : Int).toNat zS28).f4), ib a18, ib ((t98.getD (0 : Int).toNat zS28).f6)] #[ia ((t98.getD (1 : Int).toNat zS28).f0), ia ((t98.getD (1 : Int).toNat zS28).f1), ia ((t98.getD (1 : Int).toNat zS28).f2), ia ((t98.getD (1 : Int).toNat zS28).f3), ib ((t98.getD (1 : Int).toNat zS28).f4), ib ((t98.getD (1 : Int).toNat zS28).f5), ib ((t98.getD (1 : Int).toNat zS28).f6)] ((((t98.getD (0 : Int).toNat zS28).f0) == ((t98.getD (1 : Int).toNat zS28).f0)) && ((((t98.getD (0 : Int).toNat zS28).f1) == ((t98.getD (1 : Int).toNat zS28).f1)) && ((((t98.getD (0 : Int).toNat zS28).f2) == ((t98.getD (1 : Int).toNat zS28).f2)) && ((((t98.getD (0 : Int).toNat zS28).f3) == ((t98.getD (1 : Int).toNat zS28).f3)) && ((((t98.getD (0 : Int).toNat zS28).f4) == ((t98.getD (1 : Int).toNat zS28).f4)) && ((a18 == ((t98.getD (1 : Int).toNat zS28).f5)) && ((((t98.getD (0 : Int).toNat zS28).f6) == ((t98.getD (1 : Int).toNat zS28).f6)) && true))))))) (((((t98.getD (0 : Int).toNat zS28).f0) == ((t98.getD (1 : Int).toNat zS28).f0)) && ((((t98.getD (0 : Int).toNat zS28).f1) == ((t98.getD (1 : Int).toNat zS28).f1)) && ((((t98.getD (0 : Int).toNat zS28).f2) == ((t98.getD (1 : Int).toNat zS28).f2)) && ((((t98.getD (0 : Int).toNat zS28).f3) == ((t98.getD (1 : Int).toNat zS28).f3)) && ((((t98.getD (0 : Int).toNat zS28).f4) == ((t98.getD (1 : Int).toNat zS28).f4)) && ((a18 == ((t98.getD (1 : Int).toNat zS28).f5)) && ((((t98.getD (0 : Int).toNat zS28).f6) == ((t98.getD (1 : Int).toNat zS28).f6)) && true)))))))) 45 (by kernel_rfl) (by kernel_rfl) (by kernel_rfl) (by kernel_rfl) (by kernel_rfl) (.inl ⟨rfl, rfl⟩)) ?_
     refine ED.two 11 15 15 (by kernel_rfl) (by kernel_rfl) ?_ ?_
     ·refine EO.lit hS kS28 28 22 1 #[(0, ag (encS28 {(t98.getD (0 : Int).toNat zS28) with f5 := a18}))] [ia ((t98.getD (0 : Int).toNat zS28).f0), ia ((t98.getD (0 : Int).toNat zS28).f1), ia ((t98.getD (0 : Int).toNat zS28).f2), ia ((t98.getD (0 : Int).toNat zS28).f3), ib ((t98.getD (0 : Int).toNat zS28).f4), ib a18, ib ((t98.getD (0 : Int).toNat zS28).f6)] a7 35 (by kernel_rfl) (by kernel_rfl) (by kernel_rfl) (fun _ => (by kernel_rfl)) (by rw [d0]; rfl) (by kernel_rfl) (fun w G hr => (by rw [d0]; exact ⟨[ia ((t98.getD (0 : Int).toNat zS28).f0), ia ((t98.getD (0 : Int).toNat zS28).f1), ia ((t98.getD (0 : Int).toNat zS28).f2), ia ((t98.getD (0 : Int).toNat zS28).f3), ib ((t98.getD (0 : Int).toNat zS28).f4), ib a18, ib ((t98.getD (0 : Int).toNat zS28).f6)], [], rfl, ⟨[ia ((t98.getD (0 : Int).toNat zS28).f0)], [ia ((t98.getD (0 : Int).toNat zS28).f1), ia ((t98.getD (0 : Int).toNat zS28).f2), ia ((t98.getD (0 : Int).toNat zS28).f3), ib ((t98.getD (0 : Int).toNat zS28).f4), ib a18, ib ((t98.getD (0 : Int).toNat zS28).f6)], rfl, rfl, ⟨[ia ((t98.getD (0 : Int).toNat zS28).f1)], [ia ((t98.getD (0 : Int).toNat zS28).f2), ia ((t98.getD (0 : Int).toNat zS28).f3), ib ((t98.getD (0 : Int).toNat zS28).f4), ib a18, ib ((t98.getD (0 : Int).toNat zS28).f6)], rfl, rfl, ⟨[ia ((t98.getD (0 : Int).toNat zS28).f2)], [ia ((t98.getD (0 : Int).toNat zS28).f3), ib ((t98.getD (0 : Int).toNat zS28).f4), ib a18, ib ((t98.getD (0 : Int).toNat zS28).f6)], rfl, rfl, ⟨[ia ((t98.getD (0 : Int).toNat zS28).f3)], [ib ((t98.getD (0 : Int).toNat zS28).f4), ib a18, ib ((t98.getD (0 : Int).toNat zS28).f6)], rfl, rfl, ⟨[ib ((t98.getD (0 : Int).toNat zS28).f4)], [ib a18, ib ((t98.getD (0 : Int).toNat zS28).f6)], rfl, rfl, ⟨[ib a18], [ib ((t98.getD (0 : Int).toNat zS28).f6)], rfl, rfl, ⟨[ib ((t98.getD (0 : Int).toNat zS28).f6)], [], rfl, rfl, rfl⟩⟩⟩⟩⟩⟩⟩, rfl⟩)) ?_
      intro b9 w hS
      have hC := hC.again ⟨_, _, hS.re [5, 5, 5, 5, 5] [] rfl sub_self⟩
      refine ⟨hC, ?_⟩
      refine ED.at' (bm 31 3690495) (by kernel_rfl) ?_
      refine ED.two 12 15 14 (by kernel_rfl) (by kernel_rfl) ?_ ?_
      ·have hS := St.fr hS 0 rfl
       have hS : St B _ (Ass.box 28 a5 (encS28 (t98.getD (1 : Int).toNat zS28)) :: Ass.box 28 a0 (encS28 {(t98.getD (0 : Int).toNat zS28) with f5 := a18}) :: Ass.own 28 kS28 (some a4) a3 t98 :: Ass.box 50 g79 [ig a14, ig a15, ig a16, ig a17] :: Ass.box 50 g78 [ig a10, ig a11, ig a12, ig a13] :: os) (Ro.sl kS28 (some ⟨b9, 0, none⟩) 1 a7 :: Ro.sl kS50 (some ⟨g96, 0, none⟩) 2 l97 :: rs) := hS.re [] [] rfl (sub_cons 0 rfl (sub_tail (sub_self)))
       have hq := trace_Put.calls d1 hS
       refine EO.callD 15 [sv (some ⟨b9, 0, none⟩) 1 a7] _ 36 (by kernel_rfl) (by kernel_rfl) (by kernel_rfl) hq ?_
       rintro v w ⟨b4, b6, rfl, hS⟩
       have hC := hC.again ⟨_, _, hS.re [5, 5, 5, 5, 5] [] rfl (sub_cons 1 rfl sub_self)⟩
       refine ⟨hC, ?_⟩
       refine ED.at' (bm 31 3694591) (by kernel_rfl) ?_
       refine ED.two 13 15 13 (by kernel_rfl) (by kernel_rfl) ?_ ?_
       ·refine EO.Y (YO.bstr hS b4 b6 a1 (Rd.own 0 5 rfl) 33 9 5 37 (by kernel_rfl) (by kernel_rfl) (by kernel_rfl) (by kernel_rfl) (by kernel_rfl) (by kernel_rfl)) ?_
        have hC := hC.again ⟨_, _, hS.re [5, 5, 5, 5, 5] [] rfl (sub_cons 1 rfl sub_self)⟩
        refine ⟨hC, ?_⟩
        refine ED.at' (bm 31 3702783) (by kernel_rfl) ?_
        refine ED.one 15 12 (bm 31 3735551) (by kernel_rfl) (by kernel_rfl) (by kernel_rfl) (EO.lit hS kS28 28 22 1 #[(0, ag (encS28 (t98.getD (1 : Int).toNat zS28)))] [ia ((t98.getD (1 : Int).toNat zS28).f0), ia ((t98.getD (1 : Int).toNat zS28).f1), ia ((t98.getD (1 : Int).toNat zS28).f2), ia ((t98.getD (1 : Int).toNat zS28).f3), ib ((t98.getD (1 : Int).toNat zS28).f4), ib ((t98.getD (1 : Int).toNat zS28).f5), ib ((t98.getD (1 : Int).toNat zS28).f6)] a6 39 (by kernel_rfl) (by kernel_rfl) (by kernel_rfl) (fun _ => (by kernel_rfl)) (by rw [b0]; rfl) (by kernel_rfl) (fun w G hr => (by rw [b0]; exact ⟨[ia ((t98.getD (1 : Int).toNat zS28).f0), ia ((t98.getD (1 : Int).toNat zS28).f1), ia ((t98.getD (1 : Int).toNat zS28).f2), ia ((t98.getD (1 : Int).toNat zS28).f3), ib ((t98.getD (1 : Int).toNat zS28).f4), ib ((t98.getD (1 : Int).toNat zS28).f5), ib ((t98.getD (1 : Int).toNat zS28).f6)], [], rfl, ⟨[ia ((t98.getD (1 : Int).toNat zS28).f0)], [ia ((t98.getD (1 : Int).toNat zS28).f1), ia ((t98.getD (1 : Int).toNat zS28).f2), ia ((t98.getD (1 : Int).toNat zS28).f3), ib ((t98.getD (1 : Int).toNat zS28).f4), ib ((t98.getD (1 : Int).toNat zS28).f5), ib ((t98.getD (1 : Int).toNat zS28).f6)], rfl, rfl, ⟨[ia ((t98.getD (1 : Int).toNat zS28).f1)], [ia ((t98.getD (1 : Int).toNat zS28).f2), ia ((t98.getD (1 : Int).toNat zS28).f3), ib ((t98.getD (1 : Int).toNat zS28).f4), ib ((t98.getD (1 : Int).toNat zS28).f5), ib ((t98.getD (1 : Int).toNat zS28).f6)], rfl, rfl, ⟨[ia ((t98.getD (1 : Int).toNat zS28).f2)], [ia ((t98.getD (1 : Int).toNat zS28).f3), ib ((t98.getD (1 : Int).toNat zS28).f4), ib ((t98.getD (1 : Int).toNat zS28).f5), ib ((t98.getD (1 : Int).toNat zS28).f6)], rfl, rfl, ⟨[ia ((t98.getD (1 : Int).toNat zS28).f3)], [ib ((t98.getD (1 : Int).toNat zS28).f4), ib ((t98.getD (1 : Int).toNat zS28).f5), ib ((t98.getD (1 : Int).toNat zS28).f6)], rfl, rfl, ⟨[ib ((t98.getD (1 : Int).toNat zS28).f4)], [ib ((t98.getD (1 : Int).toNat zS28).f5), ib ((t98.getD (1 : Int).toNat zS28).f6)], rfl, rfl, ⟨[ib ((t98.getD (1 : Int).toNat zS28).f5)], [ib ((t98.getD (1 : Int).toNat zS28).f6)], rfl, rfl, ⟨[ib ((t98.getD (1 : Int).toNat zS28).f6)], [], rfl, rfl, rfl⟩⟩⟩⟩⟩⟩⟩, rfl⟩)) ?_)
        intro m2 w hS
        have hC := hC.again ⟨_, _, hS.re [6, 6, 6, 6, 6] [] rfl (sub_cons 1 rfl sub_self)⟩
        refine ⟨hC, ?_⟩
        have hS := St.fr hS 0 rfl
        have hS : St B _ (Ass.own 5 (Kd.int .u8) b4 b6 a1 :: Ass.box 28 a5 (encS28 (t98.getD (1 : Int).toNat zS28)) :: Ass.box 28 a0 (encS28 {(t98.getD (0 : Int).toNat zS28) with f5 := a18}) :: Ass.own 28 kS28 (some a4) a3 t98 :: Ass.box 50 g79 [ig a14, ig a15, ig a16, ig a17] :: Ass.box 50 g78 [ig a10, ig a11, ig a12, ig a13] :: os) (Ro.sl kS28 (some ⟨m2, 0, none⟩) 1 a6 :: Ro.sl kS28 (some ⟨b9, 0, none⟩) 1 a7 :: Ro.sl kS50 (some ⟨g96, 0, none⟩) 2 l97 :: rs) := hS.re [] [] rfl (sub_cons 0 rfl (sub_tail (sub_self)))
        have hq := trace_Put.calls b2 hS
        refine ED.one 16 11 (bm 31 3801087) (by kernel_rfl) (by kernel_rfl) (by kernel_rfl) (EO.callD 15 [sv (some ⟨m2, 0, none⟩) 1 a6] _ 40 (by kernel_rfl) (by kernel_rfl) (by kernel_rfl) hq ?_)
        rintro v w ⟨i5, j7, rfl, hS⟩
        have hC := hC.again ⟨_, _, hS.re [6, 6, 6, 6, 6] [] rfl (sub_cons 2 rfl sub_self)⟩
        refine ⟨hC, ?_⟩
        refine ED.one 17 10 (bm 31 3932159) (by kernel_rfl) (by kernel_rfl) (by kernel_rfl) (EO.Y (YO.bstr hS i5 j7 a2 (Rd.own 0 5 rfl) 33 9 5 41 (by kernel_rfl) (by kernel_rfl) (by kernel_rfl) (by kernel_rfl) (by kernel_rfl) (by kernel_rfl)) ?_)
        have hC := hC.again ⟨_, _, hS.re [6, 6, 6, 6, 6] [] rfl (sub_cons 2 rfl sub_self)⟩
        refine ⟨hC, ?_⟩
        refine ED.quick hN hF hC [18, 22, 23, 24] [8, 48] 6 [(8, pt a0 0), (48, .bool ((((bStr a1).toList == (bStr a2).toList) == ((((t98.getD (0 : Int).toNat zS28).f0) == ((t98.getD (1 : Int).toNat zS28).f0)) && ((((t98.getD (0 : Int).toNat zS28).f1) == ((t98.getD (1 : Int).toNat zS28).f1)) && ((((t98.getD (0 : Int).toNat zS28).f2) == ((t98.getD (1 : Int).toNat zS28).f2)) && ((((t98.getD (0 : Int).toNat zS28).f3) == ((t98.getD (1 : Int).toNat zS28).f3)) && ((((t98.getD (0 : Int).toNat zS28).f4) == ((t98.getD (1 : Int).toNat zS28).f4)) && ((a18 == ((t98.getD (1 : Int).toNat zS28).f5)) && ((((t98.getD (0 : Int).toNat zS28).f6) == ((t98.getD (1 : Int).toNat zS28).f6)) && true))))))))))] (bm 31 33554431) (by kernel_rfl) (by kernel_rfl) ?_
        refine ED.keep [8, 48] [(8, pt a0 0), (48, .bool ((((bStr a1).toList == (bStr a2).toList) == ((((t98.getD (0 : Int).toNat zS28).f0) == ((t98.getD (1 : Int).toNat zS28).f0)) && ((((t98.getD (0 : Int).toNat zS28).f1) == ((t98.getD (1 : Int).toNat zS28).f1)) && ((((t98.getD (0 : Int).toNat zS28).f2) == ((t98.getD (1 : Int).toNat zS28).f2)) && ((((t98.getD (0 : Int).toNat zS28).f3) == ((t98.getD (1 : Int).toNat zS28).f3)) && ((((t98.getD (0 : Int).toNat zS28).f4) == ((t98.getD (1 : Int).toNat zS28).f4)) && ((a18 == ((t98.getD (1 : Int).toNat zS28).f5)) && ((((t98.getD (0 : Int).toNat zS28).f6) == ((t98.getD (1 : Int).toNat zS28).f6)) && true))))))))))] (by kernel_rfl) ?_
        refine ED.as' [(8, pt a0 0), (48, .bool (false))] (by simp only [encS28, sv, (Bool.eq_false_iff.2 a9), Bool.not_true, Bool.not_false]) ?_
        refine ED.quick hN hF hC [25, 26, 27, 28, 29, 30] [6] 0 [(6, .bool (false))] (bm 31 2147483647) (by kernel_rfl) (by kernel_rfl) ?_
        refine ED.done (by kernel_rfl) ?_
        refine EQ.to ?_
        refine EQ.keep [6] [(6, .bool (false))] (by kernel_rfl) ?_
        exact fun a ha => ⟨i5, j7, b4, b6, ha, (hS.re [6, 6, 6, 6, 6, 6, 6] [] rfl (sub_cons 2 rfl (sub_tail (sub_tail (sub_tail (sub_self))))))⟩
       ·refine EO.lit hS kS28 28 22 1 #[(0, ag (encS28 (t98.getD (1 : Int).toNat zS28)))] [ia ((t98.getD (1 : Int).toNat zS28).f0), ia ((t98.getD (1 : Int).toNat zS28).f1), ia ((t98.getD (1 : Int).toNat zS28).f2), ia ((t98.getD (1 : Int).toNat zS28).f3), ib ((t98.getD (1 : Int).toNat zS28).f4), ib ((t98.getD (1 : Int).toNat zS28).f5), ib ((t98.getD (1 : Int).toNat zS28).f6)] a6 39 (by kernel_rfl) (by kernel_rfl) (by kernel_rfl) (fun _ => (by kernel_rfl)) (by rw [b0]; rfl) (by kernel_rfl) (fun w G hr => (by rw [b0]; exact ⟨[ia ((t98.getD (1 : Int).toNat zS28).f0), ia ((t98.getD (1 : Int).toNat zS28).f1), ia ((t98.getD (1 : Int).toNat zS28).f2), ia ((t98.getD (1 : Int).toNat zS28).f3), ib ((t98.getD (1 : Int).toNat zS28).f4), ib ((t98.getD (1 : Int).toNat zS28).f5), ib ((t98.getD (1 : Int).toNat zS28).f6)], [], rfl, ⟨[ia ((t98.getD (1 : Int).toNat zS28).f0)], [ia ((t98.getD (1 : Int).toNat zS28).f1), ia ((t98.getD (1 : Int).toNat zS28).f2), ia ((t98.getD (1 : Int).toNat zS28).f3), ib ((t98.getD (1 : Int).toNat zS28).f4), ib ((t98.getD (1 : Int).toNat zS28).f5), ib ((t98.getD (1 : Int).toNat zS28).f6)], rfl, rfl, ⟨[ia ((t98.getD (1 : Int).toNat zS28).f1)], [ia ((t98.getD (1 : Int).toNat zS28).f2), ia ((t98.getD (1 : Int).toNat zS28).f3), ib ((t98.getD (1 : Int).toNat zS28).f4), ib ((t98.getD (1 : Int).toNat zS28).f5), ib ((t98.getD (1 : Int).toNat zS28).f6)], rfl, rfl, ⟨[ia ((t98.getD (1 : Int).toNat zS28).f2)], [ia ((t98.getD (1 : Int).toNat zS28).f3), ib ((t98.getD (1 : Int).toNat zS28).f4), ib ((t98.getD (1 : Int).toNat zS28).f5), ib ((t98.getD (1 : Int).toNat zS28).f6)], rfl, rfl, ⟨[ia ((t98.getD (1 : Int).toNat zS28).f3)], [ib ((t98.getD (1 : Int).toNat zS28).f4), ib ((t98.getD (1 : Int).toNat zS28).f5), ib ((t98.getD (1 : Int).toNat zS28).f6)], rfl, rfl, ⟨[ib ((t98.getD (1 : Int).toNat zS28).f4)], [ib ((t98.getD (1 : Int).toNat zS28).f5), ib ((t98.getD (1 : Int).toNat zS28).f6)], rfl, rfl, ⟨[ib ((t98.getD (1 : Int).toNat zS28).f5)], [ib ((t98.getD (1 : Int).toNat zS28).f6)], rfl, rfl, ⟨[ib ((t98.getD (1 : Int).toNat zS28).f6)], [], rfl, rfl, rfl⟩⟩⟩⟩⟩⟩⟩, rfl⟩)) ?_
        intro g2 w hS
        have hC := hC.again ⟨_, _, hS.re [6, 6, 6, 6, 6] [] rfl (sub_cons 1 rfl sub_self)⟩
        refine ⟨hC, ?_⟩
        refine ED.at' (bm 31 3727359) (by kernel_rfl) ?_
        refine ED.two 13 16 12 (by kernel_rfl) (by kernel_rfl) ?_ ?_
        ·refine EO.Y (YO.bstr hS b4 b6 a1 (Rd.own 1 5 rfl) 33 9 5 37 (by kernel_rfl) (by kernel_rfl) (by kernel_rfl) (by kernel_rfl) (by kernel_rfl) (by kernel_rfl)) ?_
         have hC := hC.again ⟨_, _, hS.re [6, 6, 6, 6, 6] [] rfl (sub_cons 1 rfl sub_self)⟩
         refine ⟨hC, ?_⟩
         refine ED.at' (bm 31 3735551) (by kernel_rfl) ?_
         have hS := St.fr hS 0 rfl
         have hS : St B _ (Ass.own 5 (Kd.int .u8) b4 b6 a1 :: Ass.box 28 a5 (encS28 (t98.getD (1 : Int).toNat zS28)) :: Ass.box 28 a0 (encS28 {(t98.getD (0 : Int).toNat zS28) with f5 := a18}) :: Ass.own 28 kS28 (some a4) a3 t98 :: Ass.box 50 g79 [ig a14, ig a15, ig a16, ig a17] :: Ass.box 50 g78 [ig a10, ig a11, ig a12, ig a13] :: os) (Ro.sl kS28 (some ⟨g2, 0, none⟩) 1 a6 :: Ro.sl kS28 (some ⟨b9, 0, none⟩) 1 a7 :: Ro.sl kS50 (some ⟨g96, 0, none⟩) 2 l97 :: rs) := hS.re [] [] rfl (sub_cons 0 rfl (sub_tail (sub_self)))
         have hq := trace_Put.calls b2 hS
         refine ED.one 16 11 (bm 31 3801087) (by kernel_rfl) (by kernel_rfl) (by kernel_rfl) (EO.callD 15 [sv (some ⟨g2, 0, none⟩) 1 a6] _ 40 (by kernel_rfl) (by kernel_rfl) (by kernel_rfl) hq ?_)
         rintro v w ⟨i6, j8, rfl, hS⟩
         have hC := hC.again ⟨_, _, hS.re [6, 6, 6, 6, 6] [] rfl (sub_cons 2 rfl sub_self)⟩
         refine ⟨hC, ?_⟩
         refine ED.one 17 10 (bm 31 3932159) (by kernel_rfl) (by kernel_rfl) (by kernel_rfl) (EO.Y (YO.bstr hS i6 j8 a2 (Rd.own 0 5 rfl) 33 9 5 41 (by kernel_rfl) (by kernel_rfl) (by kernel_rfl) (by kernel_rfl) (by kernel_rfl) (by kernel_rfl)) ?_)
         have hC := hC.again ⟨_, _, hS.re [6, 6, 6, 6, 6] [] rfl (sub_cons 2 rfl sub_self)⟩
         refine ⟨hC, ?_⟩
         refine ED.quick hN hF hC [18, 22, 23, 24] [8, 48] 6 [(8, pt a0 0), (48, .bool ((((bStr a1).toList == (bStr a2).toList) == ((((t98.getD (0 : Int).toNat zS28).f0) == ((t98.getD (1 : Int).toNat zS28).f0)) && ((((t98.getD (0 : Int).toNat zS28).f1) == ((t98.getD (1 : Int).toNat zS28).f1)) && ((((t98.getD (0 : Int).toNat zS28).f2) == ((t98.getD (1 : Int).toNat zS28).f2)) && ((((t98.getD (0 : Int).toNat zS28).f3) == ((t98.getD (1 : Int).toNat zS28).f3)) && ((((t98.getD (0 : Int).toNat zS28).f4) == ((t98.getD (1 : Int).toNat zS28).f4)) && ((a18 == ((t98.getD (1 : Int).toNat zS28).f5)) && ((((t98.getD (0 : Int).toNat zS28).f6) == ((t98.getD (1 : Int).toNat zS28).f6)) && true))))))))))] (bm 31 33554431) (by kernel_rfl) (by kernel_rfl) ?_
         refine ED.keep [8, 48] [(8, pt a0 0), (48, .bool ((((bStr a1).toList == (bStr a2).toList) == ((((t98.getD (0 : Int).toNat zS28).f0) == ((t98.getD (1 : Int).toNat zS28).f0)) && ((((t98.getD (0 : Int).toNat zS28).f1) == ((t98.getD (1 : Int).toNat zS28).f1)) && ((((t98.getD (0 : Int).toNat zS28).f2) == ((t98.getD (1 : Int).toNat zS28).f2)) && ((((t98.getD (0 : Int).toNat zS28).f3) == ((t98.getD (1 : Int).toNat zS28).f3)) && ((((t98.getD (0 : Int).toNat zS28).f4) == ((t98.getD (1 : Int).toNat zS28).f4)) && ((a18 == ((t98.getD (1 : Int).toNat zS28).f5)) && ((((t98.getD (0 : Int).toNat zS28).f6) == ((t98.getD (1 : Int).toNat zS28).f6)) && true))))))))))] (by kernel_rfl) ?_
         refine ED.as' [(8, pt a0 0), (48, .bool (false))] (by simp only [encS28, sv, (Bool.eq_false_iff.2 a9), Bool.not_true, Bool.not_false]) ?_
         refine ED.quick hN hF hC [25, 26, 27, 28, 29, 30] [6] 0 [(6, .bool (false))] (bm 31 2147483647) (by kernel_rfl) (by kernel_rfl) ?_
         refine ED.done (by kernel_rfl) ?_
         refine EQ.to ?_
         refine EQ.keep [6] [(6, .bool (false))] (by kernel_rfl) ?_
         exact fun a ha => ⟨i6, j8, b4, b6, ha, (hS.re [6, 6, 6, 6, 6, 6, 6] [] rfl (sub_cons 2 rfl (sub_tail (sub_tail (sub_tail (sub_self))))))⟩
        ·have hS := St.fr hS 0 rfl
         have hS : St B _ (Ass.own 5 (Kd.int .u8) b4 b6 a1 :: Ass.box 28 a5 (encS28 (t98.getD (1 : Int).toNat zS28)) :: Ass.box 28 a0 (encS28 {(t98.getD (0 : Int).toNat zS28) with f5 := a18}) :: Ass.own 28 kS28 (some a4) a3 t98 :: Ass.box 50 g79 [ig a14, ig a15, ig a16, ig a17] :: Ass.box 50 g78 [ig a10, ig a11, ig a12, ig a13] :: os) (Ro.sl kS28 (some ⟨g2, 0, none⟩) 1 a6 :: Ro.sl kS28 (some ⟨b9, 0, none⟩) 1 a7 :: Ro.sl kS50 (some ⟨g96, 0, none⟩) 2 l97 :: rs) := hS.re [] [] rfl (sub_cons 0 rfl (sub_tail (sub_self)))
         have hq := trace_Put.calls b2 hS
         refine EO.callD 15 [sv (some ⟨g2, 0, none⟩) 1 a6] _ 40 (by kernel_rfl) (by kernel_rfl) (by kernel_rfl) hq ?_
         rintro v w ⟨e0, e6, rfl, hS⟩
         have hC := hC.again ⟨_, _, hS.re [6, 6, 6, 6, 6] [] rfl (sub_cons 2 rfl sub_self)⟩
         refine ⟨hC, ?_⟩
         refine ED.at' (bm 31 3792895) (by kernel_rfl) ?_
         refine ED.two 13 17 11 (by kernel_rfl) (by kernel_rfl) ?_ ?_
         ·refine EO.Y (YO.bstr hS b4 b6 a1 (Rd.own 1 5 rfl) 33 9 5 37 (by kernel_rfl) (by kernel_rfl) (by kernel_rfl) (by kernel_rfl) (by kernel_rfl) (by kernel_rfl)) ?_
          have hC := hC.again ⟨_, _, hS.re [6, 6, 6, 6, 6] [] rfl (sub_cons 2 rfl sub_self)⟩
          refine ⟨hC, ?_⟩
          refine ED.at' (bm 31 3801087) (by kernel_rfl) ?_
          refine ED.one 17 10 (bm 31 3932159) (by kernel_rfl) (by kernel_rfl) (by kernel_rfl) (EO.Y (YO.bstr hS e0 e6 a2 (Rd.own 0 5 rfl) 33 9 5 41 (by kernel_rfl) (by kernel_rfl) (by kernel_rfl) (by kernel_rfl) (by kernel_rfl) (by kernel_rfl)) ?_)
          have hC := hC.again ⟨_, _, hS.re [6, 6, 6, 6, 6] [] rfl (sub_cons 2 rfl sub_self)⟩
          refine ⟨hC, ?_⟩
          refine ED.quick hN hF hC [18, 22, 23, 24] [8, 48] 6 [(8, pt a0 0), (48, .bool ((((bStr a1).toList == (bStr a2).toList) == ((((t98.getD (0 : Int).toNat zS28).f0) == ((t98.getD (1 : Int).toNat zS28).f0)) && ((((t98.getD (0 : Int).toNat zS28).f1) == ((t98.getD (1 : Int).toNat zS28).f1)) && ((((t98.getD (0 : Int).toNat zS28).f2) == ((t98.getD (1 : Int).toNat zS28).f2)) && ((((t98.getD (0 : Int).toNat zS28).f3) == ((t98.getD (1 : Int).toNat zS28).f3)) && ((((t98.getD (0 : Int).toNat zS28).f4) == ((t98.getD (1 : Int).toNat zS28).f4)) && ((a18 == ((t98.getD (1 : Int).toNat zS28).f5)) && ((((t98.getD (0 : Int).toNat zS28).f6) == ((t98.getD (1 : Int).toNat zS28).f6)) && true))))))))))] (bm 31 33554431) (by kernel_rfl) (by kernel_rfl) ?_
          refine ED.keep [8, 48] [(8, pt a0 0), (48, .bool ((((bStr a1).toList == (bStr a2).toList) == ((((t98.getD (0 : Int).toNat zS28).f0) == ((t98.getD (1 : Int).toNat zS28).f0)) && ((((t98.getD (0 : Int).toNat zS28).f1) == ((t98.getD (1 : Int).toNat zS28).f1)) && ((((t98.getD (0 : Int).toNat zS28).f2) == ((t98.getD (1 : Int).toNat zS28).f2)) && ((((t98.getD (0 : Int).toNat zS28).f3) == ((t98.getD (1 : Int).toNat zS28).f3)) && ((((t98.getD (0 : Int).toNat zS28).f4) == ((t98.getD (1 : Int).toNat zS28).f4)) && ((a18 == ((t98.getD (1 : Int).toNat zS28).f5)) && ((((t98.getD (0 : Int).toNat zS28).f6) == ((t98.getD (1 : Int).toNat zS28).f6)) && true))))))))))] (by kernel_rfl) ?_
          refine ED.as' [(8, pt a0 0), (48, .bool (false))] (by simp only [encS28, sv, (Bool.eq_false_iff.2 a9), Bool.not_true, Bool.not_false]) ?_
          refine ED.quick hN hF hC [25, 26, 27, 28, 29, 30] [6] 0 [(6, .bool (false))] (bm 31 2147483647) (by kernel_rfl) (by kernel_rfl) ?_
          refine ED.done (by kernel_rfl) ?_
          refine EQ.to ?_
          refine EQ.keep [6] [(6, .bool (false))] (by kernel_rfl) ?_
          exact fun a ha => ⟨e0, e6, b4, b6, ha, (hS.re [6, 6, 6, 6, 6, 6, 6] [] rfl (sub_cons 2 rfl (sub_tail (sub_tail (sub_tail (sub_self))))))⟩
         ·refine EO.Y (YO.bstr hS e0 e6 a2 (Rd.own 0 5 rfl) 33 9 5 41 (by kernel_rfl) (by kernel_rfl) (by kernel_rfl) (by kernel_rfl) (by kernel_rfl) (by kernel_rfl)) ?_
          have hC := hC.again ⟨_, _, hS.re [6, 6, 6, 6, 6] [] rfl (sub_cons 2 rfl sub_self)⟩
          refine ⟨hC, ?_⟩
          refine ED.at' (bm 31 3923967) (by kernel_rfl) ?_
          refine ED.one 13 10 (bm 31 3932159) (by kernel_rfl) (by kernel_rfl) (by kernel_rfl) (EO.Y (YO.bstr hS b4 b6 a1 (Rd.own 1 5 rfl) 33 9 5 37 (by kernel_rfl) (by kernel_rfl) (by kernel_rfl) (by kernel_rfl) (by kernel_rfl) (by kernel_rfl)) ?_)
          have hC := hC.again ⟨_, _, hS.re [6, 6, 6, 6, 6] [] rfl (sub_cons 2 rfl sub_self)⟩
          refine ⟨hC, ?_⟩
          refine ED.quick hN hF hC [18, 22, 23, 24] [8, 48] 6 [(8, pt a0 0), (48, .bool ((((bStr a1).toList == (bStr a2).toList) == ((((t98.getD (0 : Int).toNat zS28).f0) == ((t98.getD (1 : Int).toNat zS28).f0)) && ((((t98.getD (0 : Int).toNat zS28).f1) == ((t98.getD (1 : Int).toNat zS28).f1)) && ((((t98.getD (0 : Int).toNat zS28).f2) == ((t98.getD (1 : Int).toNat zS28).f2)) && ((((t98.getD (0 : Int).toNat zS28).f3) == ((t98.getD (1 : Int).toNat zS28).f3)) && ((((t98.getD (0 : Int).toNat zS28).f4) == ((t98.getD (1 : Int).toNat zS28).f4)) && ((a18 == ((t98.getD (1 : Int).toNat zS28).f5)) && ((((t98.getD (0 : Int).toNat zS28).f6) == ((t98.getD (1 : Int).toNat zS28).f6)) && true))))))))))] (bm 31 33554431) (by kernel_rfl) (by kernel_rfl) ?_
          refine ED.keep [8, 48] [(8, pt a0 0), (48, .bool ((((bStr a1).toList == (bStr a2).toList) == ((((t98.getD (0 : Int).toNat zS28).f0) == ((t98.getD (1 : Int).toNat zS28).f0)) && ((((t98.getD (0 : Int).toNat zS28).f1) == ((t98.getD (1 : Int).toNat zS28).f1)) && ((((t98.getD (0 : Int).toNat zS28).f2) == ((t98.getD (1 : Int).toNat zS28).f2)) && ((((t98.getD (0 : Int).toNat zS28).f3) == ((t98.getD (1 : Int).toNat zS28).f3)) && ((((t98.getD (0 : Int).toNat zS28).f4) == ((t98.getD (1 : Int).toNat zS28).f4)) && ((a18 == ((t98.getD (1 : Int).toNat zS28).f5)) && ((((t98.getD (0 : Int).toNat zS28).f6) == ((t98.getD (1 : Int).toNat zS28).f6)) && true))))))))))] (by kernel_rfl) ?_
          refine ED.as' [(8, pt a0 0), (48, .bool (false))] (by simp only [encS28, sv, (Bool.eq_false_iff.2 a9), Bool.not_true, Bool.not_false]) ?_
          refine ED.quick hN hF hC [25, 26, 27, 28, 29, 30] [6] 0 [(6, .bool (false))] (bm 31 2147483647) (by kernel_rfl) (by kernel_rfl) ?_
          refine ED.done (by kernel_rfl) ?_
          refine EQ.to ?_
          refine EQ.keep [6] [(6, .bool (false))] (by kernel_rfl) ?_
          exact fun a ha => ⟨e0, e6, b4, b6, ha, (hS.re [6, 6, 6, 6, 6, 6, 6] [] rfl (sub_cons 2 rfl (sub_tail (sub_tail (sub_tail (sub_self))))))⟩
      ·refine EO.lit hS kS28 28 22 1 #[(0, ag (encS28 (t98.getD (1 : Int).toNat zS28)))] [ia ((t98.getD (1 : Int).toNat zS28).f0), ia ((t98.getD (1 : Int).toNat zS28).f1), ia ((t98.getD (1 : Int).toNat zS28).f2), ia ((t98.getD (1 : Int).toNat zS28).f3), ib ((t98.getD (1 : Int).toNat zS28).f4), ib ((t98.getD (1 : Int).toNat zS28).f5), ib ((t98.getD (1 : Int).toNat zS28).f6)] a6 39 (by kernel_rfl) (by kernel_rfl) (by kernel_rfl) (fun _ => (by kernel_rfl)) (by rw [b0]; rfl) (by kernel_rfl) (fun w G hr => (by rw [b0]; exact ⟨[ia ((t98.getD (1 : Int).toNat zS28).f0), ia ((t98.getD (1 : Int).toNat zS28).f1), ia ((t98.getD (1 : Int).toNat zS28).f2), ia ((t98.getD (1 : Int).toNat zS28).f3), ib ((t98.getD (1 : Int).toNat zS28).f4), ib ((t98.getD (1 : Int).toNat zS28).f5), ib ((t98.getD (1 : Int).toNat zS28).f6)], [], rfl, ⟨[ia ((t98.getD (1 : Int).toNat zS28).f0)], [ia ((t98.getD (1 : Int).toNat zS28).f1), ia ((t98.getD (1 : Int).toNat zS28).f2), ia ((t98.getD (1 : Int).toNat zS28).f3), ib ((t98.getD (1 : Int).toNat zS28).f4), ib ((t98.getD (1 : Int).toNat zS28).f5), ib ((t98.getD (1 : Int).toNat zS28).f6)], rfl, rfl, ⟨[ia ((t98.getD (1 : Int).toNat zS28).f1)], [ia ((t98.getD (1 : Int).toNat zS28).f2), ia ((t98.getD (1 : Int).toNat zS28).f3), ib ((t98.getD (1 : Int).toNat zS28).f4), ib ((t98.getD (1 : Int).toNat zS28).f5), ib ((t98.getD (1 : Int).toNat zS28).f6)], rfl, rfl, ⟨[ia ((t98.getD (1 : Int).toNat zS28).f2)], [ia ((t98.getD (1 : Int).toNat zS28).f3), ib ((t98.getD (1 : Int).toNat zS28).f4), ib ((t98.getD (1 : Int).toNat zS28).f5), ib ((t98.getD (1 : Int).toNat zS28).f6)], rfl, rfl, ⟨[ia ((t98.getD (1 : Int).toNat zS28).f3)], [ib ((t98.getD (1 : Int).toNat zS28).f4), ib ((t98.getD (1 : Int).toNat zS28).f5), ib ((t98.getD (1 : Int).toNat zS28).f6)], rfl, rfl, ⟨[ib ((t98.getD (1 : Int).toNat zS28).f4)], [ib ((t98.getD (1 : Int).toNat zS28).f5), ib ((t98.getD (1 : Int).toNat zS28).f6)], rfl, rfl, ⟨[ib ((t98.getD (1 : Int).toNat zS28).f5)], [ib ((t98.getD (1 : Int).toNat zS28).f6)], rfl, rfl, ⟨[ib ((t98.getD (1 : Int).toNat zS28).f6)], [], rfl, rfl, rfl⟩⟩⟩⟩⟩⟩⟩, rfl⟩)) ?_
       intro d4 w hS
       have hC := hC.again ⟨_, _, hS.re [6, 6, 6, 6, 6] [] rfl sub_self⟩
       refine ⟨hC, ?_⟩
       refine ED.at' (bm 31 3723263) (by kernel_rfl) ?_
       have hS := St.fr hS 1 rfl
       have hS : St B _ (Ass.own 28 kS28 (some ⟨d4, 0, none⟩) 1 a6 :: Ass.box 28 a5 (encS28 (t98.getD (1 : Int).toNat zS28)) :: Ass.box 28 a0 (encS28 {(t98.getD (0 : Int).toNat zS28) with f5 := a18}) :: Ass.own 28 kS28 (some a4) a3 t98 :: Ass.box 50 g79 [ig a14, ig a15, ig a16, ig a17] :: Ass.box 50 g78 [ig a10, ig a11, ig a12, ig a13] :: os) (Ro.sl kS28 (some ⟨b9, 0, none⟩) 1 a7 :: Ro.sl kS50 (some ⟨g96, 0, none⟩) 2 l97 :: rs) := hS.re [] [] rfl (sub_cons 0 rfl (sub_tail (sub_self)))
       have hq := trace_Put.calls d1 hS
       refine ED.one 12 13 (bm 31 3727359) (by kernel_rfl) (by kernel_rfl) (by kernel_rfl) (EO.callD 15 [sv (some ⟨b9, 0, none⟩) 1 a7] _ 36 (by kernel_rfl) (by kernel_rfl) (by kernel_rfl) hq ?_)
       rintro v w ⟨c4, c8, rfl, hS⟩
       have hC := hC.again ⟨_, _, hS.re [6, 6, 6, 6, 6] [] rfl (sub_cons 1 rfl sub_self)⟩
       refine ⟨hC, ?_⟩
       refine ED.two 13 16 12 (by kernel_rfl) (by kernel_rfl) ?_ ?_
       ·refine EO.Y (YO.bstr hS c4 c8 a1 (Rd.own 0 5 rfl) 33 9 5 37 (by kernel_rfl) (by kernel_rfl) (by kernel_rfl) (by kernel_rfl) (by kernel_rfl) (by kernel_rfl)) ?_
        have hC := hC.again ⟨_, _, hS.re [6, 6, 6, 6, 6] [] rfl (sub_cons 1 rfl sub_self)⟩
        refine ⟨hC, ?_⟩
        refine ED.at' (bm 31 3735551) (by kernel_rfl) ?_
        have hS := St.fr hS 1 rfl
        have hS : St B _ (Ass.own 5 (Kd.int .u8) c4 c8 a1 :: Ass.box 28 a5 (encS28 (t98.getD (1 : Int).toNat zS28)) :: Ass.box 28 a0 (encS28 {(t98.getD (0 : Int).toNat zS28) with f5 := a18}) :: Ass.own 28 kS28 (some a4) a3 t98 :: Ass.box 50 g79 [ig a14, ig a15, ig a16, ig a17] :: Ass.box 50 g78 [ig a10, ig a11, ig a12, ig a13] :: os) (Ro.sl kS28 (some ⟨d4, 0, none⟩) 1 a6 :: Ro.sl kS28 (some ⟨b9, 0, none⟩) 1 a7 :: Ro.sl kS50 (some ⟨g96, 0, none⟩) 2 l97 :: rs) := hS.re [] [] rfl (sub_cons 0 rfl (sub_tail (sub_self)))
        have hq := trace_Put.calls b2 hS
        refine ED.one 16 11 (bm 31 3801087) (by kernel_rfl) (by kernel_rfl) (by kernel_rfl) (EO.callD 15 [sv (some ⟨d4, 0, none⟩) 1 a6] _ 40 (by kernel_rfl) (by kernel_rfl) (by kernel_rfl) hq ?_)
        rintro v w ⟨i7, j9, rfl, hS⟩
        have hC := hC.again ⟨_, _, hS.re [6, 6, 6, 6, 6] [] rfl (sub_cons 2 rfl sub_self)⟩
        refine ⟨hC, ?_⟩
        refine ED.one 17 10 (bm 31 3932159) (by kernel_rfl) (by kernel_rfl) (by kernel_rfl) (EO.Y (YO.bstr hS i7 j9 a2 (Rd.own 0 5 rfl) 33 9 5 41 (by kernel_rfl) (by kernel_rfl) (by kernel_rfl) (by kernel_rfl) (by kernel_rfl) (by kernel_rfl)) ?_)
        have hC := hC.again ⟨_, _, hS.re [6, 6, 6, 6, 6] [] rfl (sub_cons 2 rfl sub_self)⟩
        refine ⟨hC, ?_⟩
        refine ED.quick hN hF hC [18, 22, 23, 24] [8, 48] 6 [(8, pt a0 0), (48, .bool ((((bStr a1).toList == (bStr a2).toList) == ((((t98.getD (0 : Int).toNat zS28).f0) == ((t98.getD (1 : Int).toNat zS28).f0)) && ((((t98.getD (0 : Int).toNat zS28).f1) == ((t98.getD (1 : Int).toNat zS28).f1)) && ((((t98.getD (0 : Int).toNat zS28).f2) == ((t98.getD (1 : Int).toNat zS28).f2)) && ((((t98.getD (0 : Int).toNat zS28).f3) == ((t98.getD (1 : Int).toNat zS28).f3)) && ((((t98.getD (0 : Int).toNat zS28).f4) == ((t98.getD (1 : Int).toNat zS28).f4)) && ((a18 == ((t98.getD (1 : Int).toNat zS28).f5)) && ((((t98.getD (0 : Int).toNat zS28).f6) == ((t98.getD (1 : Int).toNat zS28).f6)) && true))))))))))] (bm 31 33554431) (by kernel_rfl) (by kernel_rfl) ?_
        refine ED.keep [8, 48] [(8, pt a0 0), (48, .bool ((((bStr a1).toList == (bStr a2).toList) == ((((t98.getD (0 : Int).toNat zS28).f0) == ((t98.getD (1 : Int).toNat zS28).f0)) && ((((t98.getD (0 : Int).toNat zS28).f1) == ((t98.getD (1 : Int).toNat zS28).f1)) && ((((t98.getD (0 : Int).toNat zS28).f2) == ((t98.getD (1 : Int).toNat zS28).f2)) && ((((t98.getD (0 : Int).toNat zS28).f3) == ((t98.getD (1 : Int).toNat zS28).f3)) && ((((t98.getD (0 : Int).toNat zS28).f4) == ((t98.getD (1 : Int).toNat zS28).f4)) && ((a18 == ((t98.getD (1 : Int).toNat zS28).f5)) && ((((t98.getD (0 : Int).toNat zS28).f6) == ((t98.getD (1 : Int).toNat zS28).f6)) && true))))))))))] (by kernel_rfl) ?_
        refine ED.as' [(8, pt a0 0), (48, .bool (false))] (by simp only [encS28, sv, (Bool.eq_false_iff.2 a9), Bool.not_true, Bool.not_false]) ?_
        refine ED.quick hN hF hC [25, 26, 27, 28, 29, 30] [6] 0 [(6, .bool (false))] (bm 31 2147483647) (by kernel_rfl) (by kernel_rfl) ?_
        refine ED.done (by kernel_rfl) ?_
        refine EQ.to ?_
        refine EQ.keep [6] [(6, .bool (false))] (by kernel_rfl) ?_
        exact fun a ha => ⟨i7, j9, c4, c8, ha, (hS.re [6, 6, 6, 6, 6, 6, 6] [] rfl (sub_cons 2 rfl (sub_tail (sub_tail (sub_tail (sub_self))))))⟩
       ·have hS := St.fr hS 1 rfl
        have hS : St B _ (Ass.own 5 (Kd.int .u8) c4 c8 a1 :: Ass.box 28 a5 (encS28 (t98.getD (1 : Int).toNat zS28)) :: Ass.box 28 a0 (encS28 {(t98.getD (0 : Int).toNat zS28) with f5 := a18}) :: Ass.own 28 kS28 (some a4) a3 t98 :: Ass.box 50 g79 [ig a14, ig a15, ig a16, ig a17] :: Ass.box 50 g78 [ig a10, ig a11, ig a12, ig a13] :: os) (Ro.sl kS28 (some ⟨d4, 0, none⟩) 1 a6 :: Ro.sl kS28 (some ⟨b9, 0, none⟩) 1 a7 :: Ro.sl kS50 (some ⟨g96, 0, none⟩) 2 l97 :: rs) := hS.re [] [] rfl (sub_cons 0 rfl (sub_tail (sub_self)))
        have hq := trace_Put.calls b2 hS
        refine EO.callD 15 [sv (some ⟨d4, 0, none⟩) 1 a6] _ 40 (by kernel_rfl) (by kernel_rfl) (by kernel_rfl) hq ?_
        rintro v w ⟨e1, e7, rfl, hS⟩
        have hC := hC.again ⟨_, _, hS.re [6, 6, 6, 6, 6] [] rfl (sub_cons 2 rfl sub_self)⟩
        refine ⟨hC, ?_⟩
        refine ED.at' (bm 31 3792895) (by kernel_rfl) ?_
        refine ED.two 13 17 11 (by kernel_rfl) (by kernel_rfl) ?_ ?_
        ·refine EO.Y (YO.bstr hS c4 c8 a1 (Rd.own 1 5 rfl) 33 9 5 37 (by kernel_rfl) (by kernel_rfl) (by kernel_rfl) (by kernel_rfl) (by kernel_rfl) (by kernel_rfl)) ?_
         have hC := hC.again ⟨_, _, hS.re [6, 6, 6, 6, 6] [] rfl (sub_cons 2 rfl sub_self)⟩
         refine ⟨hC, ?_⟩
         refine ED.at' (bm 31 3801087) (by kernel_rfl) ?_
         refine ED.one 17 10 (bm 31 3932159) (by kernel_rfl) (by kernel_rfl) (by kernel_rfl) (EO.Y (YO.bstr hS e1 e7 a2 (Rd.own 0 5 rfl) 33 9 5 41 (by kernel_rfl) (by kernel_rfl) (by kernel_rfl) (by kernel_rfl) (by kernel_rfl) (by kernel_rfl)) ?_)
         have hC := hC.again ⟨_, _, hS.re [6, 6, 6, 6, 6] [] rfl (sub_cons 2 rfl sub_self)⟩
         refine ⟨hC, ?_⟩
         refine ED.quick hN hF hC [18, 22, 23, 24] [8, 48] 6 [(8, pt a0 0), (48, .bool ((((bStr a1).toList == (bStr a2).toList) == ((((t98.getD (0 : Int).toNat zS28).f0) == ((t98.getD (1 : Int).toNat zS28).f0)) && ((((t98.getD (0 : Int).toNat zS28).f1) == ((t98.getD (1 : Int).toNat zS28).f1)) && ((((t98.getD (0 : Int).toNat zS28).f2) == ((t98.getD (1 : Int).toNat zS28).f2)) && ((((t98.getD (0 : Int).toNat zS28).f3) == ((t98.getD (1 : Int).toNat zS28).f3)) && ((((t98.getD (0 : Int).toNat zS28).f4) == ((t98.getD (1 : Int).toNat zS28).f4)) && ((a18 == ((t98.getD (1 : Int).toNat zS28).f5)) && ((((t98.getD (0 : Int).toNat zS28).f6) == ((t98.getD (1 : Int).toNat zS28).f6)) && true))))))))))] (bm 31 33554431) (by kernel_rfl) (by kernel_rfl) ?_
         refine ED.keep [8, 48] [(8, pt a0 0), (48, .bool ((((bStr a1).toList == (bStr a2).toList) == ((((t98.getD (0 : Int).toNat zS28).f0) == ((t98.getD (1 : Int).toNat zS28).f0)) && ((((t98.getD (0 : Int).toNat zS28).f1) == ((t98.getD (1 : Int).toNat zS28).f1)) && ((((t98.getD (0 : Int).toNat zS28).f2) == ((t98.getD (1 : Int).toNat zS28).f2)) && ((((t98.getD (0 : Int).toNat zS28).f3) == ((t98.getD (1 : Int).toNat zS28).f3)) && ((((t98.getD (0 : Int).toNat zS28).f4) == ((t98.getD (1 : Int).toNat zS28).f4)) && ((a18 == ((t98.getD (1 : Int).toNat zS28).f5)) && ((((t98.getD (0 : Int).toNat zS28).f6) == ((t98.getD (1 : Int).toNat zS28).f6)) && true))))))))))] (by kernel_rfl) ?_
         refine ED.as' [(8, pt a0 0), (48, .bool (false))] (by simp only [encS28, sv, (Bool.eq_false_iff.2 a9), Bool.not_true, Bool.not_false]) ?_
         refine ED.quick hN hF hC [25, 26, 27, 28, 29, 30] [6] 0 [(6, .bool (false))] (bm 31 2147483647) (by kernel_rfl) (by kernel_rfl) ?_
         refine ED.done (by kernel_rfl) ?_
         refine EQ.to ?_
         refine EQ.keep [6] [(6, .bool (false))] (by kernel_rfl) ?_
         exact fun a ha => ⟨e1, e7, c4, c8, ha, (hS.re [6, 6, 6, 6, 6, 6, 6] [] rfl (sub_cons 2 rfl (sub_tail (sub_tail (sub_tail (sub_self))))))⟩
        ·refine EO.Y (YO.bstr hS e1 e7 a2 (Rd.own 0 5 rfl) 33 9 5 41 (by kernel_rfl) (by kernel_rfl) (by kernel_rfl) (by kernel_rfl) (by kernel_rfl) (by kernel_rfl)) ?_
         have hC := hC.again ⟨_, _, hS.re [6, 6, 6, 6, 6] [] rfl (sub_cons 2 rfl sub_self)⟩
         refine ⟨hC, ?_⟩
         refine ED.at' (bm 31 3923967) (by kernel_rfl) ?_
         refine ED.one 13 10 (bm 31 3932159) (by kernel_rfl) (by kernel_rfl) (by kernel_rfl) (EO.Y (YO.bstr hS c4 c8 a1 (Rd.own 1 5 rfl) 33 9 5 37 (by kernel_rfl) (by kernel_rfl) (by kernel_rfl) (by kernel_rfl) (by kernel_rfl) (by kernel_rfl)) ?_)
         have hC := hC.again ⟨_, _, hS.re [6, 6, 6, 6, 6] [] rfl (sub_cons 2 rfl sub_self)⟩
         refine ⟨hC, ?_⟩
         refine ED.quick hN hF hC [18, 22, 23, 24] [8, 48] 6 [(8, pt a0 0), (48, .bool ((((bStr a1).toList == (bStr a2).toList) == ((((t98.getD (0 : Int).toNat zS28).f0) == ((t98.getD (1 : Int).toNat zS28).f0)) && ((((t98.getD (0 : Int).toNat zS28).f1) == ((t98.getD (1 : Int).toNat zS28).f1)) && ((((t98.getD (0 : Int).toNat zS28).f2) == ((t98.getD (1 : Int).toNat zS28).f2)) && ((((t98.getD (0 : Int).toNat zS28).f3) == ((t98.getD (1 : Int).toNat zS28).f3)) && ((((t98.getD (0 : Int).toNat zS28).f4) == ((t98.getD (1 : Int).toNat zS28).f4)) && ((a18 == ((t98.getD (1 : Int).toNat zS28).f5)) && ((((t98.getD (0 : Int).toNat zS28).f6) == ((t98.getD (1 : Int).toNat zS28).f6)) && true))))))))))] (bm 31 33554431) (by kernel_rfl) (by kernel_rfl) ?_
         refine ED.keep [8, 48] [(8, pt a0 0), (48, .bool ((((bStr a1).toList == (bStr a2).toList) == ((((t98.getD (0 : Int).toNat zS28).f0) == ((t98.getD (1 : Int).toNat zS28).f0)) && ((((t98.getD (0 : Int).toNat zS28).f1) == ((t98.getD (1 : Int).toNat zS28).f1)) && ((((t98.getD (0 : Int).toNat zS28).f2) == ((t98.getD (1 : Int).toNat zS28).f2)) && ((((t98.getD (0 : Int).toNat zS28).f3) == ((t98.getD (1 : Int).toNat zS28).f3)) && ((((t98.getD (0 : Int).toNat zS28).f4) == ((t98.getD (1 : Int).toNat zS28).f4)) && ((a18 == ((t98.getD (1 : Int).toNat zS28).f5)) && ((((t98.getD (0 : Int).toNat zS28).f6) == ((t98.getD (1 : Int).toNat zS28).f6)) && true))))))))))] (by kernel_rfl) ?_
         refine ED.as' [(8, pt a0 0), (48, .bool (false))] (by simp only [encS28, sv, (Bool.eq_false_iff.2 a9), Bool.not_true, Bool.not_false]) ?_
         refine ED.quick hN hF hC [25, 26, 27, 28, 29, 30] [6] 0 [(6, .bool (false))] (bm 31 2147483647) (by kernel_rfl) (by kernel_rfl) ?_
         refine ED.done (by kernel_rfl) ?_
         refine EQ.to ?_
         refine EQ.keep [6] [(6, .bool (false))] (by kernel_rfl) ?_
         exact fun a ha => ⟨e1, e7, c4, c8, ha, (hS.re [6, 6, 6, 6, 6, 6, 6] [] rfl (sub_cons 2 rfl (sub_tail (sub_tail (sub_tail (sub_self))))))⟩
     ·refine EO.lit hS kS28 28 22 1 #[(0, ag (encS28 (t98.getD (1 : Int).toNat zS28)))] [ia ((t98.getD (1 : Int).toNat zS28).f0), ia ((t98.getD (1 : Int).toNat zS28).f1), ia ((t98.getD (1 : Int).toNat zS28).f2), ia ((t98.getD (1 : Int).toNat zS28).f3), ib ((t98.getD (1 : Int).toNat zS28).f4), ib ((t98.getD (1 : Int).toNat zS28).f5), ib ((t98.getD (1 : Int).toNat zS28).f6)] a6 39 (by kernel_rfl) (by kernel_rfl) (by kernel_rfl) (fun _ => (by kernel_rfl)) (by rw [b0]; rfl) (by kernel_rfl) (fun w G hr => (by rw [b0]; exact ⟨[ia ((t98.getD (1 : Int).toNat zS28).f0), ia ((t98.getD (1 : Int).toNat zS28).f1), ia ((t98.getD (1 : Int).toNat zS28).f2), ia ((t98.getD (1 : Int).toNat zS28).f3), ib ((t98.getD (1 : Int).toNat zS28).f4), ib ((t98.getD (1 : Int).toNat zS28).f5), ib ((t98.getD (1 : Int).toNat zS28).f6)], [], rfl, ⟨[ia ((t98.getD (1 : Int).toNat zS28).f0)], [ia ((t98.getD (1 : Int).toNat zS28).f1), ia ((t98.getD (1 : Int).toNat zS28).f2), ia ((t98.getD (1 : Int).toNat zS28).f3), ib ((t98.getD (1 : Int).toNat zS28).f4), ib ((t98.getD (1 : Int).toNat zS28).f5), ib ((t98.getD (1 : Int).toNat zS28).f6)], rfl, rfl, ⟨[ia ((t98.getD (1 : Int).toNat zS28).f1)], [ia ((t98.getD (1 : Int).toNat zS28).f2), ia ((t98.getD (1 : Int).toNat zS28).f3), ib ((t98.getD (1 : Int).toNat zS28).f4), ib ((t98.getD (1 : Int).toNat zS28).f5), ib ((t98.getD (1 : Int).toNat zS28).f6)], rfl, rfl, ⟨[ia ((t98.getD (1 : Int).toNat zS28).f2)], [ia ((t98.getD (1 : Int).toNat zS28).f3), ib ((t98.getD (1 : Int).toNat zS28).f4), ib ((t98.getD (1 : Int).toNat zS28).f5), ib ((t98.getD (1 : Int).toNat zS28).f6)], rfl, rfl, ⟨[ia ((t98.getD (1 : Int).toNat zS28).f3)], [ib ((t98.getD (1 : Int).toNat zS28).f4), ib ((t98.getD (1 : Int).toNat zS28).f5), ib ((t98.getD (1 : Int).toNat zS28).f6)], rfl, rfl, ⟨[ib ((t98.getD (1 : Int).toNat zS28).f4)], [ib ((t98.getD (1 : Int).toNat zS28).f5), ib ((t98.getD (1 : Int).toNat zS28).f6)], rfl, rfl, ⟨[ib ((t98.getD (1 : Int).toNat zS28).f5)], [ib ((t98.getD (1 : Int).toNat zS28).f6)], rfl, rfl, ⟨[ib ((t98.getD (1 : Int).toNat zS28).f6)], [], rfl, rfl, rfl⟩⟩⟩⟩⟩⟩⟩, rfl⟩)) ?_
      intro d5 w hS
      have hC := hC.again ⟨_, _, hS.re [5, 5, 5, 5, 5] [] rfl sub_self⟩
      refine ⟨hC, ?_⟩
      refine ED.at' (bm 31 3721215) (by kernel_rfl) ?_
      refine ED.one 11 14 (bm 31 3723263) (by kernel_rfl) (by kernel_rfl) (by kernel_rfl) (EO.lit hS kS28 28 22 1 #[(0, ag (encS28 {(t98.getD (0 : Int).toNat zS28) with f5 := a18}))] [ia ((t98.getD (0 : Int).toNat zS28).f0), ia ((t98.getD (0 : Int).toNat zS28).f1), ia ((t98.getD (0 : Int).toNat zS28).f2), ia ((t98.getD (0 : Int).toNat zS28).f3), ib ((t98.getD (0 : Int).toNat zS28).f4), ib a18, ib ((t98.getD (0 : Int).toNat zS28).f6)] a7 35 (by kernel_rfl) (by kernel_rfl) (by kernel_rfl) (fun _ => (by kernel_rfl)) (by rw [d0]; rfl) (by kernel_rfl) (fun w G hr => (by rw [d0]; exact ⟨[ia ((t98.getD (0 : Int).toNat zS28).f0), ia ((t98.getD (0 : Int).toNat zS28).f1), ia ((t98.getD (0 : Int).toNat zS28).f2), ia ((t98.getD (0 : Int).toNat zS28).f3), ib ((t98.getD (0 : Int).toNat zS28).f4), ib a18, ib ((t98.getD (0 : Int).toNat zS28).f6)], [], rfl, ⟨[ia ((t98.getD (0 : Int).toNat zS28).f0)], [ia ((t98.getD (0 : Int).toNat zS28).f1), ia ((t98.getD (0 : Int).toNat zS28).f2), ia ((t98.getD (0 : Int).toNat zS28).f3), ib ((t98.getD (0 : Int).toNat zS28).f4), ib a18, ib ((t98.getD (0 : Int).toNat zS28).f6)], rfl, rfl, ⟨[ia ((t98.getD (0 : Int).toNat zS28).f1)], [ia ((t98.getD (0 : Int).toNat zS28).f2), ia ((t98.getD (0 : Int).toNat zS28).f3), ib ((t98.getD (0 : Int).toNat zS28).f4), ib a18, ib ((t98.getD (0 : Int).toNat zS28).f6)], rfl, rfl, ⟨[ia ((t98.getD (0 : Int).toNat zS28).f2)], [ia ((t98.getD (0 : Int).toNat zS28).f3), ib ((t98.getD (0 : Int).toNat zS28).f4), ib a18, ib ((t98.getD (0 : Int).toNat zS28).f6)], rfl, rfl, ⟨[ia ((t98.getD (0 : Int).toNat zS28).f3)], [ib ((t98.getD (0 : Int).toNat zS28).f4), ib a18, ib ((t98.getD (0 : Int).toNat zS28).f6)], rfl, rfl, ⟨[ib ((t98.getD (0 : Int).toNat zS28).f4)], [ib a18, ib ((t98.getD (0 : Int).toNat zS28).f6)], rfl, rfl, ⟨[ib a18], [ib ((t98.getD (0 : Int).toNat zS28).f6)], rfl, rfl, ⟨[ib ((t98.getD (0 : Int).toNat zS28).f6)], [], rfl, rfl, rfl⟩⟩⟩⟩⟩⟩⟩, rfl⟩)) ?_)
      intro g3 w hS
      have hC := hC.again ⟨_, _, hS.re [6, 6, 6, 6, 6] [] rfl sub_self⟩
      refine ⟨hC, ?_⟩
      have hS := St.fr hS 0 rfl
      have hS : St B _ (Ass.own 28 kS28 (some ⟨d5, 0, none⟩) 1 a6 :: Ass.box 28 a5 (encS28 (t98.getD (1 : Int).toNat zS28)) :: Ass.box 28 a0 (encS28 {(t98.getD (0 : Int).toNat zS28) with f5 := a18}) :: Ass.own 28 kS28 (some a4) a3 t98 :: Ass.box 50 g79 [ig a14, ig a15, ig a16, ig a17] :: Ass.box 50 g78 [ig a10, ig a11, ig a12, ig a13] :: os) (Ro.sl kS28 (some ⟨g3, 0, none⟩) 1 a7 :: Ro.sl kS50 (some ⟨g96, 0, none⟩) 2 l97 :: rs) := hS.re [] [] rfl (sub_cons 0 rfl (sub_tail (sub_self)))
      have hq := trace_Put.calls d1 hS
      refine ED.one 12 13 (bm 31 3727359) (by kernel_rfl) (by kernel_rfl) (by kernel_rfl) (EO.callD 15 [sv (some ⟨g3, 0, none⟩) 1 a7] _ 36 (by kernel_rfl) (by kernel_rfl) (by kernel_rfl) hq ?_)
      rintro v w ⟨c5, c9, rfl, hS⟩
      have hC := hC.again ⟨_, _, hS.re [6, 6, 6, 6, 6] [] rfl (sub_cons 1 rfl sub_self)⟩
      refine ⟨hC, ?_⟩
      refine ED.two 13 16 12 (by kernel_rfl) (by kernel_rfl) ?_ ?_
      ·refine EO.Y (YO.bstr hS c5 c9 a1 (Rd.own 0 5 rfl) 33 9 5 37 (by kernel_rfl) (by kernel_rfl) (by kernel_rfl) (by kernel_rfl) (by kernel_rfl) (by kernel_rfl)) ?_
       have hC := hC.again ⟨_, _, hS.re [6, 6, 6, 6, 6] [] rfl (sub_cons 1 rfl sub_self)⟩
       refine ⟨hC, ?_⟩
       refine ED.at' (bm 31 3735551) (by kernel_rfl) ?_
       have hS := St.fr hS 1 rfl
       have hS : St B _ (Ass.own 5 (Kd.int .u8) c5 c9 a1 :: Ass.box 28 a5 (encS28 (t98.getD (1 : Int).toNat zS28)) :: Ass.box 28 a0 (encS28 {(t98.getD (0 : Int).toNat zS28) with f5 := a18}) :: Ass.own 28 kS28 (some a4) a3 t98 :: Ass.box 50 g79 [ig a14, ig a15, ig a16, ig a17] :: Ass.box 50 g78 [ig a10, ig a11, ig a12, ig a13] :: os) (Ro.sl kS28 (some ⟨d5, 0, none⟩) 1 a6 :: Ro.sl kS28 (some ⟨g3, 0, none⟩) 1 a7 :: Ro.sl kS50 (some ⟨g96, 0, none⟩) 2 l97 :: rs) := hS.re [] [] rfl (sub_cons 0 rfl (sub_tail (sub_self)))
       have hq := trace_Put.calls b2 hS
       refine ED.one 16 11 (bm 31 3801087) (by kernel_rfl) (by kernel_rfl) (by kernel_rfl) (EO.callD 15 [sv (some ⟨d5, 0, none⟩) 1 a6] _ 40 (by kernel_rfl) (by kernel_rfl) (by kernel_rfl) hq ?_)
       rintro v w ⟨i8, m0, rfl, hS⟩
       have hC := hC.again ⟨_, _, hS.re [6, 6, 6, 6, 6] [] rfl (sub_cons 2 rfl sub_self)⟩
       refine ⟨hC, ?_⟩
       refine ED.one 17 10 (bm 31 3932159) (by kernel_rfl) (by kernel_rfl) (by kernel_rfl) (EO.Y (YO.bstr hS i8 m0 a2 (Rd.own 0 5 rfl) 33 9 5 41 (by kernel_rfl) (by kernel_rfl) (by kernel_rfl) (by kernel_rfl) (by kernel_rfl) (by kernel_rfl)) ?_)
       have hC := hC.again ⟨_, _, hS.re [6, 6, 6, 6, 6] [] rfl (sub_cons 2 rfl sub_self)⟩
       refine ⟨hC, ?_⟩
       refine ED.quick hN hF hC [18, 22, 23, 24] [8, 48] 6 [(8, pt a0 0), (48, .bool ((((bStr a1).toList == (bStr a2).toList) == ((((t98.getD (0 : Int).toNat zS28).f0) == ((t98.getD (1 : Int).toNat zS28).f0)) && ((((t98.getD (0 : Int).toNat zS28).f1) == ((t98.getD (1 : Int).toNat zS28).f1)) && ((((t98.getD (0 : Int).toNat zS28).f2) == ((t98.getD (1 : Int).toNat zS28).f2)) && ((((t98.getD (0 : Int).toNat zS28).f3) == ((t98.getD (1 : Int).toNat zS28).f3)) && ((((t98.getD (0 : Int).toNat zS28).f4) == ((t98.getD (1 : Int).toNat zS28).f4)) && ((a18 == ((t98.getD (1 : Int).toNat zS28).f5)) && ((((t98.getD (0 : Int).toNat zS28).f6) == ((t98.getD (1 : Int).toNat zS28).f6)) && true))))))))))] (bm 31 33554431) (by kernel_rfl) (by kernel_rfl) ?_
       refine ED.keep [8, 48] [(8, pt a0 0), (48, .bool ((((bStr a1).toList == (bStr a2).toList) == ((((t98.getD (0 : Int).toNat zS28).f0) == ((t98.getD (1 : Int).toNat zS28).f0)) && ((((t98.getD (0 : Int).toNat zS28).f1) == ((t98.getD (1 : Int).toNat zS28).f1)) && ((((t98.getD (0 : Int).toNat zS28).f2) == ((t98.getD (1 : Int).toNat zS28).f2)) && ((((t98.getD (0 : Int).toNat zS28).f3) == ((t98.getD (1 : Int).toNat zS28).f3)) && ((((t98.getD (0 : Int).toNat zS28).f4) == ((t98.getD (1 : Int).toNat zS28).f4)) && ((a18 == ((t98.getD (1 : Int).toNat zS28).f5)) && ((((t98.getD (0 : Int).toNat zS28).f6) == ((t98.getD (1 : Int).toNat zS28).f6)) && true))))))))))] (by kernel_rfl) ?_
       refine ED.as' [(8, pt a0 0), (48, .bool (false))] (by simp only [encS28, sv, (Bool.eq_false_iff.2 a9), Bool.not_true, Bool.not_false]) ?_
       refine ED.quick hN hF hC [25, 26, 27, 28, 29, 30] [6] 0 [(6, .bool (false))] (bm 31 2147483647) (by kernel_rfl) (by kernel_rfl) ?_
       refine ED.done (by kernel_rfl) ?_
       refine EQ.to ?_
       refine EQ.keep [6] [(6, .bool (false))] (by kernel_rfl) ?_
       exact fun a ha => ⟨i8, m0, c5, c9, ha, (hS.re [6, 6, 6, 6, 6, 6, 6] [] rfl (sub_cons 2 rfl (sub_tail (sub_tail (sub_tail (sub_self))))))⟩
      ·have hS := St.fr hS 1 rfl
       have hS : St B _ (Ass.own 5 (Kd.int .u8) c5 c9 a1 :: Ass.box 28 a5 (encS28 (t98.getD (1 : Int).toNat zS28)) :: Ass.box 28 a0 (encS28 {(t98.getD (0 : Int).toNat zS28) with f5 := a18}) :: Ass.own 28 kS28 (some a4) a3 t98 :: Ass.box 50 g79 [ig a14, ig a15, ig a16, ig a17] :: Ass.box 50 g78 [ig a10, ig a11, ig a12, ig a13] :: os) (Ro.sl kS28 (some ⟨d5, 0, none⟩) 1 a6 :: Ro.sl kS28 (some ⟨g3, 0, none⟩) 1 a7 :: Ro.sl kS50 (some ⟨g96, 0, none⟩) 2 l97 :: rs) := hS.re [] [] rfl (sub_cons 0 rfl (sub_tail (sub_self)))
       have hq := trace_Put.calls b2 hS
       refine EO.callD 15 [sv (some ⟨d5, 0, none⟩) 1 a6] _ 40 (by kernel_rfl) (by kernel_rfl) (by kernel_rfl) hq ?_
       rintro v w ⟨e2, e8, rfl, hS⟩
       have hC := hC.again ⟨_, _, hS.re [6, 6, 6, 6, 6] [] rfl (sub_cons 2 rfl sub_self)⟩
       refine ⟨hC, ?_⟩
       refine ED.at' (bm 31 3792895) (by kernel_rfl) ?_
       refine ED.two 13 17 11 (by kernel_rfl) (by kernel_rfl) ?_ ?_
       ·refine EO.Y (YO.bstr hS c5 c9 a1 (Rd.own 1 5 rfl) 33 9 5 37 (by kernel_rfl) (by kernel_rfl) (by kernel_rfl) (by kernel_rfl) (by kernel_rfl) (by kernel_rfl)) ?_
        have hC := hC.again ⟨_, _, hS.re [6, 6, 6, 6, 6] [] rfl (sub_cons 2 rfl sub_self)⟩
        refine ⟨hC, ?_⟩
        refine ED.at' (bm 31 3801087) (by kernel_rfl) ?_
        refine ED.one 17 10 (bm 31 3932159) (by kernel_rfl) (by kernel_rfl) (by kernel_rfl) (EO.Y (YO.bstr hS e2 e8 a2 (Rd.own 0 5 rfl) 33 9 5 41 (by kernel_rfl) (by kernel_rfl) (by kernel_rfl) (by kernel_rfl) (by kernel_rfl) (by kernel_rfl)) ?_)
        have hC := hC.again ⟨_, _, hS.re [6, 6, 6, 6, 6] [] rfl (sub_cons 2 rfl sub_self)⟩
        refine ⟨hC, ?_⟩
        refine ED.quick hN hF hC [18, 22, 23, 24] [8, 48] 6 [(8, pt a0 0), (48, .bool ((((bStr a1).toList == (bStr a2).toList) == ((((t98.getD (0 : Int).toNat zS28).f0) == ((t98.getD (1 : Int).toNat zS28).f0)) && ((((t98.getD (0 : Int).toNat zS28).f1) == ((t98.getD (1 : Int).toNat zS28).f1)) && ((((t98.getD (0 : Int).toNat zS28).f2) == ((t98.getD (1 : Int).toNat zS28).f2)) && ((((t98.getD (0 : Int).toNat zS28).f3) == ((t98.getD (1 : Int).toNat zS28).f3)) && ((((t98.getD (0 : Int).toNat zS28).f4) == ((t98.getD (1 : Int).toNat zS28).f4)) && ((a18 == ((t98.getD (1 : Int).toNat zS28).f5)) && ((((t98.getD (0 : Int).toNat zS28).f6) == ((t98.getD (1 : Int).toNat zS28).f6)) && true))))))))))] (bm 31 33554431) (by kernel_rfl) (by kernel_rfl) ?_
        refine ED.keep [8, 48] [(8, pt a0 0), (48, .bool ((((bStr a1).toList == (bStr a2).toList) == ((((t98.getD (0 : Int).toNat zS28).f0) == ((t98.getD (1 : Int).toNat zS28).f0)) && ((((t98.getD (0 : Int).toNat zS28).f1) == ((t98.getD (1 : Int).toNat zS28).f1)) && ((((t98.getD (0 : Int).toNat zS28).f2) == ((t98.getD (1 : Int).toNat zS28).f2)) && ((((t98.getD (0 : Int).toNat zS28).f3) == ((t98.getD (1 : Int).toNat zS28).f3)) && ((((t98.getD (0 : Int).toNat zS28).f4) == ((t98.getD (1 : Int).toNat zS28).f4)) && ((a18 == ((t98.getD (1 : Int).toNat zS28).f5)) && ((((t98.getD (0 : Int).toNat zS28).f6) == ((t98.getD (1 : Int).toNat zS28).f6)) && true))))))))))] (by kernel_rfl) ?_
        refine ED.as' [(8, pt a0 0), (48, .bool (false))] (by simp only [encS28, sv, (Bool.eq_false_iff.2 a9), Bool.not_true, Bool.not_false]) ?_
        refine ED.quick hN hF hC [25, 26, 27, 28, 29, 30] [6] 0 [(6, .bool (false))] (bm 31 2147483647) (by kernel_rfl) (by kernel_rfl) ?_
        refine ED.done (by kernel_rfl) ?_
        refine EQ.to ?_
        refine EQ.keep [6] [(6, .bool (false))] (by kernel_rfl) ?_
        exact fun a ha => ⟨e2, e8, c5, c9, ha, (hS.re [6, 6, 6, 6, 6, 6, 6] [] rfl (sub_cons 2 rfl (sub_tail (sub_tail (sub_tail (sub_self))))))⟩
       ·refine EO.Y (YO.bstr hS e2 e8 a2 (Rd.own 0 5 rfl) 33 9 5 41 (by kernel_rfl) (by kernel_rfl) (by kernel_rfl) (by kernel_rfl) (by kernel_rfl) (by kernel_rfl)) ?_
        have hC := hC.again ⟨_, _, hS.re [6, 6, 6, 6, 6] [] rfl (sub_cons 2 rfl sub_self)⟩
        refine ⟨hC, ?_⟩
        refine ED.at' (bm 31 3923967) (by kernel_rfl) ?_
        refine ED.one 13 10 (bm 31 3932159) (by kernel_rfl) (by kernel_rfl) (by kernel_rfl) (EO.Y (YO.bstr hS c5 c9 a1 (Rd.own 1 5 rfl) 33 9 5 37 (by kernel_rfl) (by kernel_rfl) (by kernel_rfl) (by kernel_rfl) (by kernel_rfl) (by kernel_rfl)) ?_)
        have hC := hC.again ⟨_, _, hS.re [6, 6, 6, 6, 6] [] rfl (sub_cons 2 rfl sub_self)⟩
        refine ⟨hC, ?_⟩
        refine ED.quick hN hF hC [18, 22, 23, 24] [8, 48] 6 [(8, pt a0 0), (48, .bool ((((bStr a1).toList == (bStr a2).toList) == ((((t98.getD (0 : Int).toNat zS28).f0) == ((t98.getD (1 : Int).toNat zS28).f0)) && ((((t98.getD (0 : Int).toNat zS28).f1) == ((t98.getD (1 : Int).toNat zS28).f1)) && ((((t98.getD (0 : Int).toNat zS28).f2) == ((t98.getD (1 : Int).toNat zS28).f2)) && ((((t98.getD (0 : Int).toNat zS28).f3) == ((t98.getD (1 : Int).toNat zS28).f3)) && ((((t98.getD (0 : Int).toNat zS28).f4) == ((t98.getD (1 : Int).toNat zS28).f4)) && ((a18 == ((t98.getD (1 : Int).toNat zS28).f5)) && ((((t98.getD (0 : Int).toNat zS28).f6) == ((t98.getD (1 : Int).toNat zS28).f6)) && true))))))))))] (bm 31 33554431) (by kernel_rfl) (by kernel_rfl) ?_
        refine ED.keep [8, 48] [(8, pt a0 0), (48, .bool ((((bStr a1).toList == (bStr a2).toList) == ((((t98.getD (0 : Int).toNat zS28).f0) == ((t98.getD (1 : Int).toNat zS28).f0)) && ((((t98.getD (0 : Int).toNat zS28).f1) == ((t98.getD (1 : Int).toNat zS28).f1)) && ((((t98.getD (0 : Int).toNat zS28).f2) == ((t98.getD (1 : Int).toNat zS28).f2)) && ((((t98.getD (0 : Int).toNat zS28).f3) == ((t98.getD (1 : Int).toNat zS28).f3)) && ((((t98.getD (0 : Int).toNat zS28).f4) == ((t98.getD (1 : Int).toNat zS28).f4)) && ((a18 == ((t98.getD (1 : Int).toNat zS28).f5)) && ((((t98.getD (0 : Int).toNat zS28).f6) == ((t98.getD (1 : Int).toNat zS28).f6)) && true))))))))))] (by kernel_rfl) ?_
        refine ED.as' [(8, pt a0 0), (48, .bool (false))] (by simp only [encS28, sv, (Bool.eq_false_iff.2 a9), Bool.not_true, Bool.not_false]) ?_
        refine ED.quick hN hF hC [25, 26, 27, 28, 29, 30] [6] 0 [(6, .bool (false))] (bm 31 2147483647) (by kernel_rfl) (by kernel_rfl) ?_
        refine ED.done (by kernel_rfl) ?_
        refine EQ.to ?_
        refine EQ.keep [6] [(6, .bool (false))] (by kernel_rfl) ?_
        exact fun a ha => ⟨e2, e8, c5, c9, ha, (hS.re [6, 6, 6, 6, 6, 6, 6] [] rfl (sub_cons 2 rfl (sub_tail (sub_tail (sub_tail (sub_self))))))⟩
    ·obtain ⟨i3, j5, i4, j6, ha, hS⟩ := hI
     refine EQ.at ?_ a ha
     clear ha a
     refine EQ.code ?_
     refine EW.ret (by kernel_rfl) ?_
     obtain rfl := Option.some.inj H
     exact EQ.leave (.bool (false)) (by kernel_rfl) ⟨_, rfl, rfl, (hS.re [] [0, 0, 0, 0, 0, 0, 0] rfl (sub_tail (sub_self)))⟩
   rw [if_neg d6] at H
   have hS := hS.drew
   refine EW.dr (B := B) [Ass.box 28 a5 (encS28 (t98.getD (1 : Int).toNat zS28)), Ass.box 28 a0 (encS28 {(t98.getD (0 : Int).toNat zS28) with f5 := a18}), Ass.own 28 kS28 (some a4) a3 t98, Ass.box 50 g79 [ig a14, ig a15, ig a16, ig a17], Ass.box 50 g78 [ig a10, ig a11, ig a12, ig a13]] [Ro.sl kS50 (some ⟨g96, 0, none⟩) 2 l97] (by kernel_rfl) (by kernel_rfl) ?_
   have hN : Region.noSelect Cd6.r.r.r.r.r.l.ops = true := (by kernel_rfl)
   have hF : freeAll Cd6.r.r.r.r.r.l.ops = true := (by kernel_rfl)
   have hC : Core B [Ass.box 28 a5 (encS28 (t98.getD (1 : Int).toNat zS28)), Ass.box 28 a0 (encS28 {(t98.getD (0 : Int).toNat zS28) with f5 := a18}), Ass.own 28 kS28 (some a4) a3 t98, Ass.box 50 g79 [ig a14, ig a15, ig a16, ig a17], Ass.box 50 g78 [ig a10, ig a11, ig a12, ig a13]] [Ro.sl kS50 (some ⟨g96, 0, none⟩) 2 l97] _ := ⟨_, _, hS⟩
   refine ED.Y hN hF hC 0 30 (bm 31 1) (by kernel_rfl) (by kernel_rfl) rfl (fun _ _ _ hS => YO.loadBox hS 1 rfl 28 0 7 (ag (encS28 {(t98.getD (0 : Int).toNat zS28) with f5 := a18})) 24 (by kernel_rfl) (by kernel_rfl) (by kernel_rfl) (by kernel_rfl)) ?_
   refine ED.Y hN hF hC 2 29 (bm 31 5) (by kernel_rfl) (by kernel_rfl) rfl (fun _ _ _ hS => YO.loadBox hS 0 rfl 28 0 7 (ag (encS28 (t98.getD (1 : Int).toNat zS28))) 26 (by kernel_rfl) (by kernel_rfl) (by kernel_rfl) (by kernel_rfl)) ?_
   refine ED.Y hN hF hC 5 28 (bm 31 37) (by kernel_rfl) (by kernel_rfl) rfl (fun _ _ _ hS => YO.loadBox hS 1 rfl 28 0 7 (ag (encS28 {(t98.getD (0 : Int).toNat zS28) with f5 := a18})) 29 (by kernel_rfl) (by kernel_rfl) (by kernel_rfl) (by kernel_rfl)) ?_
   refine ED.Y hN hF hC 6 27 (bm 31 101) (by kernel_rfl) (by kernel_rfl) rfl (fun _ _ _ hS => YO.loadBox hS 0 rfl 28 0 7 (ag (encS28 (t98.getD (1 : Int).toNat zS28))) 30 (by kernel_rfl) (by kernel_rfl) (by kernel_rfl) (by kernel_rfl)) ?_
   refine ED.Y hN hF hC 7 26 (bm 31 229) (by kernel_rfl) (by kernel_rfl) rfl (fun _ _ _ hS => YO.eqAg .eql 28 (.tmp 29) (.tmp 30) #[ia ((t98.getD (0 : Int).toNat zS28).f0), ia ((t98.getD (0 : Int).toNat zS28).f1), ia ((t98.getD (0 : Int).toNat zS28).f2), ia ((t98.getD (0 : Int).toNat zS28).f3), ib ((t98.getD (0 : Int).toNat zS28).f4), ib a18, ib ((t98.getD (0 : Int).toNat zS28).f6)] #[ia ((t98.getD (1 : Int).toNat zS28).f0), ia ((t98.getD (1 : Int).toNat zS28).f1), ia ((t98.getD (1 : Int).toNat zS28).f2), ia ((t98.getD (1 : Int).toNat zS28).f3), ib ((t98.getD (1 : Int).toNat zS28).f4), ib ((t98.getD (1 : Int).toNat zS28).f5), ib ((t98.getD (1 : Int).toNat zS28).f6)] ((((t98.getD (0 : Int).toNat zS28).f0) == ((t98.getD (1 : Int).toNat zS28).f0)) && ((((t98.getD (0 : Int).toNat zS28).f1) == ((t98.getD (1 : Int).toNat zS28).f1)) && ((((t98.getD (0 : Int).toNat zS28).f2) == ((t98.getD (1 : Int).toNat zS28).f2)) && ((((t98.getD (0 : Int).toNat zS28).f3) == ((t98.getD (1 : Int).toNat zS28).f3)) && ((((t98.getD (0 : Int).toNat zS28).f4) == ((t98.getD (1 : Int).toNat zS28).f4)) && ((a18 == ((t98.getD (1 : Int).toNat zS28).f5)) && ((((t98.getD (0 : Int).toNat zS28).f6) == ((t98.getD (1 : Int).toNat zS28).f6)) && true))))))) (((((t98.getD (0 : Int).toNat zS28).f0) == ((t98.getD (1 : Int).toNat zS28).f0)) && ((((t98.getD (0 : Int).toNat zS28).f1) == ((t98.getD (1 : Int).toNat zS28).f1)) && ((((t98.getD (0 : Int).toNat zS28).f2) == ((t98.getD (1 : Int).toNat zS28).f2)) && ((((t98.getD (0 : Int).toNat zS28).f3) == ((t98.getD (1 : Int).toNat zS28).f3)) && ((((t98.getD (0 : Int).toNat zS28).f4) == ((t98.getD (1 : Int).toNat zS28).f4)) && ((a18 == ((t98.getD (1 : Int).toNat zS28).f5)) && ((((t98.getD (0 : Int).toNat zS28).f6) == ((t98.getD (1 : Int).toNat zS28).f6)) && true)))))))) 31 (by kernel_rfl) (by kernel_rfl) (by kernel_rfl) (by kernel_rfl) (by kernel_rfl) (.inl ⟨rfl, rfl⟩)) ?_
   have hq := trace_Text.calls g5 hS gB
   refine ED.one 1 25 (bm 31 231) (by kernel_rfl) (by kernel_rfl) (by kernel_rfl) (EO.callD 25 [ag (encS28 {(t98.getD (0 : Int).toNat zS28) with f5 := a18})] _ 25 (by kernel_rfl) (by kernel_rfl) (by kernel_rfl) hq ?_)
   rintro v w ⟨rfl, hS⟩
   have hC := hC.again ⟨_, _, hS⟩
   refine ⟨hC, ?_⟩
   have hq := trace_Text.calls g6 hS gB
   refine ED.one 3 24 (bm 31 239) (by kernel_rfl) (by kernel_rfl) (by kernel_rfl) (EO.callD 25 [ag (encS28 (t98.getD (1 : Int).toNat zS28))] _ 27 (by kernel_rfl) (by kernel_rfl) (by kernel_rfl) hq ?_)
   rintro v w ⟨rfl, hS⟩
   have hC := hC.again ⟨_, _, hS⟩
   refine ⟨hC, ?_⟩
   refine ED.quick hN hF hC [4, 8, 9] [8, 9, 33] 21 [(8, pt a0 0), (9, pt a5 0), (33, .bool (((c0.toList == c1.toList) == ((((t98.getD (0 : Int).toNat zS28).f0) == ((t98.getD (1 : Int).toNat zS28).f0)) && ((((t98.getD (0 : Int).toNat zS28).f1) == ((t98.getD (1 : Int).toNat zS28).f1)) && ((((t98.getD (0 : Int).toNat zS28).f2) == ((t98.getD (1 : Int).toNat zS28).f2)) && ((((t98.getD (0 : Int).toNat zS28).f3) == ((t98.getD (1 : Int).toNat zS28).f3)) && ((((t98.getD (0 : Int).toNat zS28).f4) == ((t98.getD (1 : Int).toNat zS28).f4)) && ((a18 == ((t98.getD (1 : Int).toNat zS28).f5)) && ((((t98.getD (0 : Int).toNat zS28).f6) == ((t98.getD (1 : Int).toNat zS28).f6)) && true))))))))))] (bm 31 1023) (by kernel_rfl) (by kernel_rfl) ?_
   refine ED.keep [8, 9, 33] [(8, pt a0 0), (9, pt a5 0), (33, .bool (((c0.toList == c1.toList) == ((((t98.getD (0 : Int).toNat zS28).f0) == ((t98.getD (1 : Int).toNat zS28).f0)) && ((((t98.getD (0 : Int).toNat zS28).f1) == ((t98.getD (1 : Int).toNat zS28).f1)) && ((((t98.getD (0 : Int).toNat zS28).f2) == ((t98.getD (1 : Int).toNat zS28).f2)) && ((((t98.getD (0 : Int).toNat zS28).f3) == ((t98.getD (1 : Int).toNat zS28).f3)) && ((((t98.getD (0 : Int).toNat zS28).f4) == ((t98.getD (1 : Int).toNat zS28).f4)) && ((a18 == ((t98.getD (1 : Int).toNat zS28).f5)) && ((((t98.getD (0 : Int).toNat zS28).f6) == ((t98.getD (1 : Int).toNat zS28).f6)) && true))))))))))] (by kernel_rfl) ?_
   refine ED.as' [(8, pt a0 0), (9, pt a5 0), (33, .bool (false))] (by simp only [encS28, sv, (Bool.eq_false_iff.2 d6), Bool.not_true, Bool.not_false]) ?_
   refine ED.quick hN hF hC [10, 11, 12, 13, 14, 15, 16, 17, 18, 19, 20, 21, 22, 23, 24, 25, 26, 27, 28, 29, 30] [6] 0 [(6, .bool (false))] (bm 31 2147483647) (by kernel_rfl) (by kernel_rfl) ?_
   refine ED.done (by kernel_rfl) ?_
   refine EQ.code ?_
   refine EW.ret (by kernel_rfl) ?_
   obtain rfl := Option.some.inj H
   exact EQ.leave (.bool (false)) (by kernel_rfl) ⟨_, rfl, rfl, (hS.re [] [0, 0, 0, 0, 0] rfl (sub_tail (sub_self)))⟩
 rw [if_neg h89] at H
 refine EW.sq (by kernel_rfl) ?_
 refine EW.rg (by kernel_rfl) ?_
 refine EL.quick 1 [6] [(6, .bool (false))] (by kernel_rfl) ?_
 refine EL.done (by kernel_rfl) ?_
 refine EQ.code ?_
 refine EW.ret (by kernel_rfl) ?_
 refine EQ.ret ?_
 obtain rfl := Option.some.inj H
 exact EQ.leave (.bool (false)) (by kernel_rfl) ⟨_, rfl, rfl, (hS.re [] [0, 0] rfl (sub_self))⟩

def confidantlaw23_TraceTexts.Pure : Prop := ∀ (a10 : Int) (a11 : Int) (a12 : Int) (a13 : Int) (a14 : Int) (a15 : Int) (a16 : Int) (a17 : Int) (a18 : Int), (Lit.int .u8 a10).wf = true → (Lit.int .u8 a11).wf = true → (Lit.int .u8 a12).wf = true → (Lit.int .u8 a13).wf = true → (Lit.int .u8 a14).wf = true → (Lit.int .u8 a15).wf = true → (Lit.int .u8 a16).wf = true → (Lit.int .u8 a17).wf = true → (Lit.int .i32 a18).wf = true → ∃ K, confidantlaw23_TraceTexts.f K a10 a11 a12 a13 a14 a15 a16 a17 a18 = some true

end Go.Proofs.YtocdpimpkifdmaaDoor.G
