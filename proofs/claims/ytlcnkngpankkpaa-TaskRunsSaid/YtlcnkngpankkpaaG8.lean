import Derived.Test.YtlcnkngpankkpaaProg
import Derived.Test.YtlcnkngpankkpaaFwShort
import Derived.Test.YtlcnkngpankkpaaFwOpen
import Derived.Test.YtlcnkngpankkpaaG0
import Derived.Test.YtlcnkngpankkpaaG1
import Derived.Test.YtlcnkngpankkpaaG2
import Derived.Test.YtlcnkngpankkpaaG6
import Derived.Test.YtlcnkngpankkpaaG7
namespace Go.Proofs.Ytlcnkngpankkpaa.G
open Go Go.Fw Go.RowKit Go.Proofs
set_option linter.unusedVariables false
set_option linter.unusedSimpArgs false

/-! ### confidant/confidantlaw10.TaskRuns: function 9 -/
def confidantlaw10_TaskRuns.l0 (K : Nat) (a10 : Int) : Nat → Int → Int → Int → (List Int) → Int → Int → Int → Int → Int → Int → Int → Int → Int → Int → Int → (List Int) → Int → Int → Int → Int → Int → Int → Int → Int → (List (List S32)) → Int → Option Bool
 | 0, _, _, _, _, _, _, _, _, _, _, _, _, _, _, _, _, _, _, _, _, _, _, _, _, _, _ => none
 | n + 1, e5, e6, e7, c9, e8, e9, f9, g0, g1, g2, g3, g4, d4, d5, d6, c8, d7, d8, d9, e0, e1, e2, e3, e4, a4, b6 => if b6 < (IntKind.i64.wrap a10) then (b2 (task_Step.f K (⟨d4, d5, d6, c8, (⟨d7, d8, d9, e0⟩ : S55), e1, e2, e3, e4⟩ : S58) a4) fun (c0 : S63) (a0 : S58) => (b2 (confidantref9_Step.f K (⟨e5, e6, e7, c9, (⟨e8, e9, f9, g0⟩ : S55), g1, g2, g3, g4⟩ : S58) a4) fun (c5 : S63) (a2 : S58) => (lt (fun (j4 : Bool) => (if j4 = true then (some false) else (if c0.f0 = 1 then (confidantlaw10_TaskRuns.l0 K a10 n a2.f0 a2.f1 a2.f2 a2.f3 a2.f4.f0 a2.f4.f1 a2.f4.f2 a2.f4.f3 a2.f5 a2.f6 a2.f7 a2.f8 a0.f0 a0.f1 a0.f2 a0.f3 a0.f4.f0 a0.f4.f1 a0.f4.f2 a0.f4.f3 a0.f5 a0.f6 a0.f7 a0.f8 a4 (IntKind.i64.wrap (b6 + 1))) else (b1 (confidantref9_Same.f K a0 (⟨d4, d5, d6, c8, (⟨d7, d8, d9, e0⟩ : S55), e1, e2, e3, e4⟩ : S58)) fun (j3 : Bool) => (if j3 = true then (some true) else (some (decide (c0.f0 = 4)))))))) fun i8 => (if ((c0.f0 == c5.f0) && ((c0.f1 == c5.f1) && ((c0.f2 == c5.f2) && true))) = true then (b1 (confidantref9_Same.f K a0 a2) fun (i1 : Bool) => (if i1 = true then (if a0.f0 = 4 then (if a0.f5 = 2 then (if a0.f6 = 3 then (if a0.f7 = 5 then (i8 (decide ((a0.f3.length : Int) > 32))) else (i8 true)) else (i8 true)) else (i8 true)) else (i8 true)) else (i8 true))) else (i8 true))))) else (some true)
def confidantlaw10_TaskRuns.f (K : Nat) (l6 : List Int) (a9 : Int) (a10 : Int) : Option Bool := b1 (confidantlaw10_known.f K) fun (m0 : Bool) => (if m0 = true then (if (l6.length : Int) > 60 then (some true) else (b1 (confidantseat_Code.f K l6 1 1 0 true) fun (c1 : List (List S32)) => (b1 (task_New.f K 4 (⟨0, a9, 2, 3, 5, 1⟩ : S71)) fun (a3 : S58) => (b1 (confidantref9_New.f K 4 (⟨0, a9, 2, 3, 5, 1⟩ : S71)) fun (b3 : S58) => (confidantlaw10_TaskRuns.l0 K a10 K b3.f0 b3.f1 b3.f2 b3.f3 b3.f4.f0 b3.f4.f1 b3.f4.f2 b3.f4.f3 b3.f5 b3.f6 b3.f7 b3.f8 a3.f0 a3.f1 a3.f2 a3.f3 a3.f4.f0 a3.f4.f1 a3.f4.f2 a3.f4.f3 a3.f5 a3.f6 a3.f7 a3.f8 c1 0))))) else (some false))
set_option maxRecDepth 100000 in
theorem confidantlaw10_TaskRuns.calls {K : Nat} {l6 : List Int} {a9 : Int} {a10 : Int} {A7 : Option Addr} {C8 : Nat} {q2 : Bool} {B w : World} {os : List Ass} {rs : List Ro} (H : confidantlaw10_TaskRuns.f K l6 a9 a10 = some q2) (hS : St B w (os) (Ro.sl (Kd.int .u8) A7 C8 l6 :: rs)) :
  Calls Try.prog 9 [sv A7 C8 l6, ib a9, ig a10].toArray w (fun en w' => ∃ v, en = .returned v ∧ v = .bool (q2) ∧ St B w' (os) (Ro.sl (Kd.int .u8) A7 C8 l6 :: rs)) := by
 unfold confidantlaw10_TaskRuns.f at H
 refine calls_of_EW (args := [sv A7 C8 l6, ib a9, ig a10]) (c := Cd9) 95 Try.func9 (by kernel_rfl) (by kernel_rfl) (by kernel_rfl) ?_
 refine EW.sq (by kernel_rfl) ?_
 refine EW.rg (by kernel_rfl) ?_
 refine EL.quick 1 [0, 1, 2] [(0, sv A7 C8 l6), (1, ib a9), (2, ig a10)] (by kernel_rfl) ?_
 refine EL.done (by kernel_rfl) ?_
 refine EQ.code ?_
 refine EW.sq (by kernel_rfl) ?_
 refine EW.sq (by kernel_rfl) ?_
 refine EW.rg (by kernel_rfl) ?_
 obtain ⟨m0, q8, H⟩ := b1_out H
 have hq := confidantlaw10_known.calls q8 hS
 refine EL.of (EO.callD 25 [] _ 16 (by kernel_rfl) (by kernel_rfl) (by kernel_rfl) hq ?_)
 rintro v w ⟨rfl, hS⟩
 refine EL.quick 1 [0, 1, 2, 17] [(0, sv A7 C8 l6), (1, ib a9), (2, ig a10), (17, .bool (!(m0)))] (by kernel_rfl) ?_
 refine EL.done (by kernel_rfl) ?_
 refine EQ.code ?_
 refine EW.cdQ (b := !(m0)) (m0 = true) (false) (by kernel_rfl) (by kernel_rfl) ⟨fun h => (by rw [h] <;> rfl), fun h => (by rw [Bool.eq_false_iff.2 h] <;> rfl)⟩ (fun q3 => ?_) (fun q3 => ?_)
 ·rw [if_pos q3] at H
  refine EW.skip (by kernel_rfl) ?_
  refine EQ.code ?_
  refine EW.sq (by kernel_rfl) ?_
  refine EW.sq (by kernel_rfl) ?_
  refine EW.rg (by kernel_rfl) ?_
  refine EL.quick 3 [0, 1, 2, 20] [(0, sv A7 C8 l6), (1, ib a9), (2, ig a10), (20, .bool (decide ((l6.length : Int) > 60)))] (by kernel_rfl) ?_
  refine EL.done (by kernel_rfl) ?_
  refine EQ.code ?_
  refine EW.cdP ((l6.length : Int) > 60) (by kernel_rfl) (by kernel_rfl) (fun q4 => ?_) (fun q4 => ?_)
  ·rw [if_pos q4] at H
   refine EW.sq (by kernel_rfl) ?_
   refine EW.rg (by kernel_rfl) ?_
   refine EL.quick 1 [6] [(6, .bool (true))] (by kernel_rfl) ?_
   refine EL.done (by kernel_rfl) ?_
   refine EQ.code ?_
   refine EW.ret (by kernel_rfl) ?_
   refine EQ.ret ?_
   obtain rfl := Option.some.inj H
   exact EQ.leave (.bool (true)) (by kernel_rfl) ⟨_, rfl, rfl, (hS.re [] [] rfl (sub_self))⟩
  rw [if_neg q4] at H
  refine EW.skip (by kernel_rfl) ?_
  refine EQ.code ?_
  refine EW.sq (by kernel_rfl) ?_
  refine EW.rg (by kernel_rfl) ?_
  refine EL.quick 1 [1, 2, 21] [(1, ib a9), (2, ig a10), (21, sv A7 C8 l6)] (by kernel_rfl) ?_
  have hS : St B _ (os) (Ro.sl (Kd.int .u8) A7 C8 l6 :: rs) := hS.re [] [] rfl (sub_cons 0 rfl (sub_tail (sub_self)))
  obtain ⟨c1, q9, H⟩ := b1_out H
  have hq := confidantseat_Code.calls q9 hS
  refine EL.of (EO.callD 14 [sv A7 C8 l6, ia 1, ia 1, ia 0, .bool (true)] _ 22 (by kernel_rfl) (by kernel_rfl) (by kernel_rfl) hq ?_)
  rintro v w ⟨c2, c3, rfl, hS⟩
  refine EL.quick 1 [1, 2, 7] [(1, ib a9), (2, ig a10), (7, sv c2 c3 c1)] (by kernel_rfl) ?_
  refine EL.done (by kernel_rfl) ?_
  refine EQ.code ?_
  refine EW.sq (by kernel_rfl) ?_
  refine EW.rg (by kernel_rfl) ?_
  refine EL.quick 2 [2, 7, 24] [(2, ig a10), (7, sv c2 c3 c1), (24, ag [ia 0, ib a9, ia 2, ia 3, ie 5, ia 1])] (by kernel_rfl) ?_
  refine EL.of (EO.alloc hS 71 (ag (encS71 zS71)) (encS71 zS71) 8 (by kernel_rfl) (by kernel_rfl) (by kernel_rfl) (by kernel_rfl) (by first | rfl | kernel_rfl) ?_)
  intro c4 w hS
  refine EL.of (EO.storeBox (os' := Ass.box 71 c4 [ia 0, ib a9, ia 2, ia 3, ie 5, ia 1] :: Ass.deep 29 32 kS32 c2 c3 c1 :: os) hS 0 rfl 71 0 (ag [ia 0, ib a9, ia 2, ia 3, ie 5, ia 1]) [ia 0, ib a9, ia 2, ia 3, ie 5, ia 1] (by kernel_rfl) (by kernel_rfl) (by kernel_rfl) (by kernel_rfl) (by kernel_rfl) (by kernel_rfl) rfl rfl ?_)
  intro w hS
  refine EL.done (by kernel_rfl) ?_
  refine EQ.code ?_
  refine EW.sq (by kernel_rfl) ?_
  obtain ⟨a3, j9, H⟩ := b1_out H
  obtain ⟨b3, i2, H⟩ := b1_out H
  refine EW.mt (fun a w => ∃ a5 : Nat, ∃ a6 : Nat, ∃ g5 : Option Addr, ∃ g7 : Nat, ∃ g6 : Option Addr, ∃ g8 : Nat, Sat 95 [(2, ig a10), (7, sv c2 c3 c1), (9, pt a6 0), (10, pt a5 0)] a ∧ St B w (Ass.box 58 a5 (cellsS58 b3 (g5, g7)) :: Ass.box 58 a6 (cellsS58 a3 (g6, g8)) :: Ass.box 71 c4 [ia 0, ib a9, ia 2, ia 3, ie 5, ia 1] :: Ass.deep 29 32 kS32 c2 c3 c1 :: os) (Ro.sl (Kd.int .i32) g5 g7 b3.f3 :: Ro.sl (Kd.int .i32) g6 g8 a3.f3 :: Ro.sl (Kd.int .u8) A7 C8 l6 :: rs)) (by kernel_rfl) ?_ (fun a w hI => ?_)
  ·have hS := hS.drew
   refine EW.dr (B := B) [Ass.box 71 c4 [ia 0, ib a9, ia 2, ia 3, ie 5, ia 1], Ass.deep 29 32 kS32 c2 c3 c1] [Ro.sl (Kd.int .u8) A7 C8 l6] (by kernel_rfl) (by kernel_rfl) ?_
   have hN : Region.noSelect Cd9.r.r.r.r.r.l.ops = true := (by kernel_rfl)
   have hF : freeAll Cd9.r.r.r.r.r.l.ops = true := (by kernel_rfl)
   have hC : Core B [Ass.box 71 c4 [ia 0, ib a9, ia 2, ia 3, ie 5, ia 1], Ass.deep 29 32 kS32 c2 c3 c1] [Ro.sl (Kd.int .u8) A7 C8 l6] _ := ⟨_, _, hS⟩
   refine ED.Y hN hF hC 0 7 (bm 8 1) (by kernel_rfl) (by kernel_rfl) rfl (fun _ _ _ hS => YO.loadBox hS 0 rfl 71 0 6 (ag [ia 0, ib a9, ia 2, ia 3, ie 5, ia 1]) 25 (by kernel_rfl) (by kernel_rfl) (by kernel_rfl) (by kernel_rfl)) ?_
   refine ED.Y hN hF hC 2 6 (bm 8 5) (by kernel_rfl) (by kernel_rfl) rfl (fun _ _ _ hS => YO.loadBox hS 0 rfl 71 0 6 (ag [ia 0, ib a9, ia 2, ia 3, ie 5, ia 1]) 27 (by kernel_rfl) (by kernel_rfl) (by kernel_rfl) (by kernel_rfl)) ?_
   refine ED.many 1 [4, 5] 5 (by kernel_rfl) (by kernel_rfl) (Each.cons ?_ (Each.cons ?_ (Each.cons ?_ Each.nil)))
   ·have hq := task_New.calls j9 hS
    refine EO.callD 36 [ib 4, ag [ia 0, ib a9, ia 2, ia 3, ie 5, ia 1]] _ 26 (by kernel_rfl) (by kernel_rfl) (by kernel_rfl) hq ?_
    rintro v w ⟨c6, c7, rfl, hS⟩
    have hC := hC.again ⟨_, _, hS.re [1, 1] [] rfl (sub_cons 1 rfl sub_self)⟩
    refine ⟨hC, ?_⟩
    refine ED.at' (bm 8 7) (by kernel_rfl) ?_
    refine ED.many 3 [4, 5] 4 (by kernel_rfl) (by kernel_rfl) (Each.cons ?_ (Each.cons ?_ (Each.cons ?_ Each.nil)))
    ·have hq := confidantref9_New.calls i2 hS
     refine EO.callD 37 [ib 4, ag [ia 0, ib a9, ia 2, ia 3, ie 5, ia 1]] _ 28 (by kernel_rfl) (by kernel_rfl) (by kernel_rfl) hq ?_
     rintro v w ⟨i9, j0, rfl, hS⟩
     have hC := hC.again ⟨_, _, hS.re [1, 1] [] rfl (sub_cons 2 rfl sub_self)⟩
     refine ⟨hC, ?_⟩
     refine ED.at' (bm 8 15) (by kernel_rfl) ?_
     refine ED.two 4 5 3 (by kernel_rfl) (by kernel_rfl) ?_ ?_
     ·refine EO.alloc hS 58 (ag (cellsS58 zS58 (none, 0))) (cellsS58 zS58 (none, 0)) 9 (by kernel_rfl) (by kernel_rfl) (by kernel_rfl) (by kernel_rfl) (by first | rfl | kernel_rfl) ?_
      intro o1 w hS
      have hC := hC.again ⟨_, _, hS.re [2, 2] [] rfl (sub_cons 2 rfl sub_self)⟩
      refine ⟨hC, ?_⟩
      refine ED.at' (bm 8 31) (by kernel_rfl) ?_
      refine ED.one 5 2 (bm 8 63) (by kernel_rfl) (by kernel_rfl) (by kernel_rfl) (EO.alloc hS 58 (ag (cellsS58 zS58 (none, 0))) (cellsS58 zS58 (none, 0)) 10 (by kernel_rfl) (by kernel_rfl) (by kernel_rfl) (by kernel_rfl) (by first | rfl | kernel_rfl) ?_)
      intro o2 w hS
      have hC := hC.again ⟨_, _, hS.re [3, 3] [] rfl (sub_cons 2 rfl sub_self)⟩
      refine ⟨hC, ?_⟩
      refine ED.one 6 1 (bm 8 127) (by kernel_rfl) (by kernel_rfl) (by kernel_rfl) (EO.storeBox (os' := Ass.box 58 o2 (cellsS58 zS58 (none, 0)) :: Ass.box 58 o1 (cellsS58 a3 (c6, c7)) :: Ass.box 71 c4 [ia 0, ib a9, ia 2, ia 3, ie 5, ia 1] :: Ass.deep 29 32 kS32 c2 c3 c1 :: os) hS 1 rfl 58 0 (ag (cellsS58 a3 (c6, c7))) (cellsS58 a3 (c6, c7)) (by kernel_rfl) (by kernel_rfl) (by kernel_rfl) (by kernel_rfl) (by kernel_rfl) (by kernel_rfl) rfl rfl ?_)
      intro w hS
      have hC := hC.again ⟨_, _, hS.re [3, 3] [] rfl (sub_cons 2 rfl sub_self)⟩
      refine ⟨hC, ?_⟩
      refine ED.one 7 0 (bm 8 255) (by kernel_rfl) (by kernel_rfl) (by kernel_rfl) (EO.storeBox (os' := Ass.box 58 o2 (cellsS58 b3 (i9, j0)) :: Ass.box 58 o1 (cellsS58 a3 (c6, c7)) :: Ass.box 71 c4 [ia 0, ib a9, ia 2, ia 3, ie 5, ia 1] :: Ass.deep 29 32 kS32 c2 c3 c1 :: os) hS 0 rfl 58 0 (ag (cellsS58 b3 (i9, j0))) (cellsS58 b3 (i9, j0)) (by kernel_rfl) (by kernel_rfl) (by kernel_rfl) (by kernel_rfl) (by kernel_rfl) (by kernel_rfl) rfl rfl ?_)
      intro w hS
      have hC := hC.again ⟨_, _, hS.re [3, 3] [] rfl (sub_cons 2 rfl sub_self)⟩
      refine ⟨hC, ?_⟩
      refine ED.done (by kernel_rfl) ?_
      refine EQ.to ?_
      refine EQ.keep [2, 7, 9, 10] [(2, ig a10), (7, sv c2 c3 c1), (9, pt o1 0), (10, pt o2 0)] (by kernel_rfl) ?_
      exact fun a ha => ⟨o2, o1, i9, j0, c6, c7, ha, (hS.re [3, 3, 3, 3] [] rfl (sub_cons 0 rfl (sub_cons 1 rfl (sub_cons 2 rfl (sub_tail (sub_tail (sub_tail (sub_self))))))))⟩
     ·refine EO.alloc hS 58 (ag (cellsS58 zS58 (none, 0))) (cellsS58 zS58 (none, 0)) 10 (by kernel_rfl) (by kernel_rfl) (by kernel_rfl) (by kernel_rfl) (by first | rfl | kernel_rfl) ?_
      intro o3 w hS
      have hC := hC.again ⟨_, _, hS.re [2, 2] [] rfl (sub_cons 2 rfl sub_self)⟩
      refine ⟨hC, ?_⟩
      refine ED.at' (bm 8 47) (by kernel_rfl) ?_
      refine ED.one 4 2 (bm 8 63) (by kernel_rfl) (by kernel_rfl) (by kernel_rfl) (EO.alloc hS 58 (ag (cellsS58 zS58 (none, 0))) (cellsS58 zS58 (none, 0)) 9 (by kernel_rfl) (by kernel_rfl) (by kernel_rfl) (by kernel_rfl) (by first | rfl | kernel_rfl) ?_)
      intro o4 w hS
      have hC := hC.again ⟨_, _, hS.re [3, 3] [] rfl (sub_cons 2 rfl sub_self)⟩
      refine ⟨hC, ?_⟩
      refine ED.one 6 1 (bm 8 127) (by kernel_rfl) (by kernel_rfl) (by kernel_rfl) (EO.storeBox (os' := Ass.box 58 o4 (cellsS58 a3 (c6, c7)) :: Ass.box 58 o3 (cellsS58 zS58 (none, 0)) :: Ass.box 71 c4 [ia 0, ib a9, ia 2, ia 3, ie 5, ia 1] :: Ass.deep 29 32 kS32 c2 c3 c1 :: os) hS 0 rfl 58 0 (ag (cellsS58 a3 (c6, c7))) (cellsS58 a3 (c6, c7)) (by kernel_rfl) (by kernel_rfl) (by kernel_rfl) (by kernel_rfl) (by kernel_rfl) (by kernel_rfl) rfl rfl ?_)
      intro w hS
      have hC := hC.again ⟨_, _, hS.re [3, 3] [] rfl (sub_cons 2 rfl sub_self)⟩
      refine ⟨hC, ?_⟩
      refine ED.one 7 0 (bm 8 255) (by kernel_rfl) (by kernel_rfl) (by kernel_rfl) (EO.storeBox (os' := Ass.box 58 o4 (cellsS58 a3 (c6, c7)) :: Ass.box 58 o3 (cellsS58 b3 (i9, j0)) :: Ass.box 71 c4 [ia 0, ib a9, ia 2, ia 3, ie 5, ia 1] :: Ass.deep 29 32 kS32 c2 c3 c1 :: os) hS 1 rfl 58 0 (ag (cellsS58 b3 (i9, j0))) (cellsS58 b3 (i9, j0)) (by kernel_rfl) (by kernel_rfl) (by kernel_rfl) (by kernel_rfl) (by kernel_rfl) (by kernel_rfl) rfl rfl ?_)
      intro w hS
      have hC := hC.again ⟨_, _, hS.re [3, 3] [] rfl (sub_cons 2 rfl sub_self)⟩
      refine ⟨hC, ?_⟩
      refine ED.done (by kernel_rfl) ?_
      refine EQ.to ?_
      refine EQ.keep [2, 7, 9, 10] [(2, ig a10), (7, sv c2 c3 c1), (9, pt o4 0), (10, pt o3 0)] (by kernel_rfl) ?_
      exact fun a ha => ⟨o3, o4, i9, j0, c6, c7, ha, (hS.re [3, 3, 2, 3] [] rfl (sub_cons 0 rfl (sub_cons 1 rfl (sub_cons 2 rfl (sub_tail (sub_tail (sub_tail (sub_self))))))))⟩
    ·refine EO.alloc hS 58 (ag (cellsS58 zS58 (none, 0))) (cellsS58 zS58 (none, 0)) 9 (by kernel_rfl) (by kernel_rfl) (by kernel_rfl) (by kernel_rfl) (by first | rfl | kernel_rfl) ?_
     intro j1 w hS
     have hC := hC.again ⟨_, _, hS.re [2, 2] [] rfl (sub_cons 1 rfl sub_self)⟩
     refine ⟨hC, ?_⟩
     refine ED.at' (bm 8 23) (by kernel_rfl) ?_
     refine ED.two 3 5 3 (by kernel_rfl) (by kernel_rfl) ?_ ?_
     ·have hq := confidantref9_New.calls i2 hS
      refine EO.callD 37 [ib 4, ag [ia 0, ib a9, ia 2, ia 3, ie 5, ia 1]] _ 28 (by kernel_rfl) (by kernel_rfl) (by kernel_rfl) hq ?_
      rintro v w ⟨m1, n1, rfl, hS⟩
      have hC := hC.again ⟨_, _, hS.re [2, 2] [] rfl (sub_cons 2 rfl sub_self)⟩
      refine ⟨hC, ?_⟩
      refine ED.at' (bm 8 31) (by kernel_rfl) ?_
      refine ED.one 5 2 (bm 8 63) (by kernel_rfl) (by kernel_rfl) (by kernel_rfl) (EO.alloc hS 58 (ag (cellsS58 zS58 (none, 0))) (cellsS58 zS58 (none, 0)) 10 (by kernel_rfl) (by kernel_rfl) (by kernel_rfl) (by kernel_rfl) (by first | rfl | kernel_rfl) ?_)
      intro o5 w hS
      have hC := hC.again ⟨_, _, hS.re [3, 3] [] rfl (sub_cons 2 rfl sub_self)⟩
      refine ⟨hC, ?_⟩
      refine ED.one 6 1 (bm 8 127) (by kernel_rfl) (by kernel_rfl) (by kernel_rfl) (EO.storeBox (os' := Ass.box 58 o5 (cellsS58 zS58 (none, 0)) :: Ass.box 58 j1 (cellsS58 a3 (c6, c7)) :: Ass.box 71 c4 [ia 0, ib a9, ia 2, ia 3, ie 5, ia 1] :: Ass.deep 29 32 kS32 c2 c3 c1 :: os) hS 1 rfl 58 0 (ag (cellsS58 a3 (c6, c7))) (cellsS58 a3 (c6, c7)) (by kernel_rfl) (by kernel_rfl) (by kernel_rfl) (by kernel_rfl) (by kernel_rfl) (by kernel_rfl) rfl rfl ?_)
      intro w hS
      have hC := hC.again ⟨_, _, hS.re [3, 3] [] rfl (sub_cons 2 rfl sub_self)⟩
      refine ⟨hC, ?_⟩
      refine ED.one 7 0 (bm 8 255) (by kernel_rfl) (by kernel_rfl) (by kernel_rfl) (EO.storeBox (os' := Ass.box 58 o5 (cellsS58 b3 (m1, n1)) :: Ass.box 58 j1 (cellsS58 a3 (c6, c7)) :: Ass.box 71 c4 [ia 0, ib a9, ia 2, ia 3, ie 5, ia 1] :: Ass.deep 29 32 kS32 c2 c3 c1 :: os) hS 0 rfl 58 0 (ag (cellsS58 b3 (m1, n1))) (cellsS58 b3 (m1, n1)) (by kernel_rfl) (by kernel_rfl) (by kernel_rfl) (by kernel_rfl) (by kernel_rfl) (by kernel_rfl) rfl rfl ?_)
      intro w hS
      have hC := hC.again ⟨_, _, hS.re [3, 3] [] rfl (sub_cons 2 rfl sub_self)⟩
      refine ⟨hC, ?_⟩
      refine ED.done (by kernel_rfl) ?_
      refine EQ.to ?_
      refine EQ.keep [2, 7, 9, 10] [(2, ig a10), (7, sv c2 c3 c1), (9, pt j1 0), (10, pt o5 0)] (by kernel_rfl) ?_
      exact fun a ha => ⟨o5, j1, m1, n1, c6, c7, ha, (hS.re [3, 3, 3, 3] [] rfl (sub_cons 0 rfl (sub_cons 1 rfl (sub_cons 2 rfl (sub_tail (sub_tail (sub_tail (sub_self))))))))⟩
     ·refine EO.alloc hS 58 (ag (cellsS58 zS58 (none, 0))) (cellsS58 zS58 (none, 0)) 10 (by kernel_rfl) (by kernel_rfl) (by kernel_rfl) (by kernel_rfl) (by first | rfl | kernel_rfl) ?_
      intro o6 w hS
      have hC := hC.again ⟨_, _, hS.re [3, 3] [] rfl (sub_cons 1 rfl sub_self)⟩
      refine ⟨hC, ?_⟩
      refine ED.at' (bm 8 55) (by kernel_rfl) ?_
      have hq := confidantref9_New.calls i2 hS
      refine ED.one 3 2 (bm 8 63) (by kernel_rfl) (by kernel_rfl) (by kernel_rfl) (EO.callD 37 [ib 4, ag [ia 0, ib a9, ia 2, ia 3, ie 5, ia 1]] _ 28 (by kernel_rfl) (by kernel_rfl) (by kernel_rfl) hq ?_)
      rintro v w ⟨m2, n2, rfl, hS⟩
      have hC := hC.again ⟨_, _, hS.re [3, 3] [] rfl (sub_cons 2 rfl sub_self)⟩
      refine ⟨hC, ?_⟩
      refine ED.one 6 1 (bm 8 127) (by kernel_rfl) (by kernel_rfl) (by kernel_rfl) (EO.storeBox (os' := Ass.box 58 o6 (cellsS58 zS58 (none, 0)) :: Ass.box 58 j1 (cellsS58 a3 (c6, c7)) :: Ass.box 71 c4 [ia 0, ib a9, ia 2, ia 3, ie 5, ia 1] :: Ass.deep 29 32 kS32 c2 c3 c1 :: os) hS 1 rfl 58 0 (ag (cellsS58 a3 (c6, c7))) (cellsS58 a3 (c6, c7)) (by kernel_rfl) (by kernel_rfl) (by kernel_rfl) (by kernel_rfl) (by kernel_rfl) (by kernel_rfl) rfl rfl ?_)
      intro w hS
      have hC := hC.again ⟨_, _, hS.re [3, 3] [] rfl (sub_cons 2 rfl sub_self)⟩
      refine ⟨hC, ?_⟩
      refine ED.one 7 0 (bm 8 255) (by kernel_rfl) (by kernel_rfl) (by kernel_rfl) (EO.storeBox (os' := Ass.box 58 o6 (cellsS58 b3 (m2, n2)) :: Ass.box 58 j1 (cellsS58 a3 (c6, c7)) :: Ass.box 71 c4 [ia 0, ib a9, ia 2, ia 3, ie 5, ia 1] :: Ass.deep 29 32 kS32 c2 c3 c1 :: os) hS 0 rfl 58 0 (ag (cellsS58 b3 (m2, n2))) (cellsS58 b3 (m2, n2)) (by kernel_rfl) (by kernel_rfl) (by kernel_rfl) (by kernel_rfl) (by kernel_rfl) (by kernel_rfl) rfl rfl ?_)
      intro w hS
      have hC := hC.again ⟨_, _, hS.re [3, 3] [] rfl (sub_cons 2 rfl sub_self)⟩
      refine ⟨hC, ?_⟩
      refine ED.done (by kernel_rfl) ?_
      refine EQ.to ?_
      refine EQ.keep [2, 7, 9, 10] [(2, ig a10), (7, sv c2 c3 c1), (9, pt j1 0), (10, pt o6 0)] (by kernel_rfl) ?_
      exact fun a ha => ⟨o6, j1, m2, n2, c6, c7, ha, (hS.re [3, 3, 3, 3] [] rfl (sub_cons 0 rfl (sub_cons 1 rfl (sub_cons 2 rfl (sub_tail (sub_tail (sub_tail (sub_self))))))))⟩
    ·refine EO.alloc hS 58 (ag (cellsS58 zS58 (none, 0))) (cellsS58 zS58 (none, 0)) 10 (by kernel_rfl) (by kernel_rfl) (by kernel_rfl) (by kernel_rfl) (by first | rfl | kernel_rfl) ?_
     intro j2 w hS
     have hC := hC.again ⟨_, _, hS.re [2, 2] [] rfl (sub_cons 1 rfl sub_self)⟩
     refine ⟨hC, ?_⟩
     refine ED.at' (bm 8 39) (by kernel_rfl) ?_
     refine ED.two 3 4 3 (by kernel_rfl) (by kernel_rfl) ?_ ?_
     ·have hq := confidantref9_New.calls i2 hS
      refine EO.callD 37 [ib 4, ag [ia 0, ib a9, ia 2, ia 3, ie 5, ia 1]] _ 28 (by kernel_rfl) (by kernel_rfl) (by kernel_rfl) hq ?_
      rintro v w ⟨m3, n3, rfl, hS⟩
      have hC := hC.again ⟨_, _, hS.re [2, 2] [] rfl (sub_cons 2 rfl sub_self)⟩
      refine ⟨hC, ?_⟩
      refine ED.at' (bm 8 47) (by kernel_rfl) ?_
      refine ED.one 4 2 (bm 8 63) (by kernel_rfl) (by kernel_rfl) (by kernel_rfl) (EO.alloc hS 58 (ag (cellsS58 zS58 (none, 0))) (cellsS58 zS58 (none, 0)) 9 (by kernel_rfl) (by kernel_rfl) (by kernel_rfl) (by kernel_rfl) (by first | rfl | kernel_rfl) ?_)
      intro o7 w hS
      have hC := hC.again ⟨_, _, hS.re [3, 3] [] rfl (sub_cons 2 rfl sub_self)⟩
      refine ⟨hC, ?_⟩
      refine ED.one 6 1 (bm 8 127) (by kernel_rfl) (by kernel_rfl) (by kernel_rfl) (EO.storeBox (os' := Ass.box 58 o7 (cellsS58 a3 (c6, c7)) :: Ass.box 58 j2 (cellsS58 zS58 (none, 0)) :: Ass.box 71 c4 [ia 0, ib a9, ia 2, ia 3, ie 5, ia 1] :: Ass.deep 29 32 kS32 c2 c3 c1 :: os) hS 0 rfl 58 0 (ag (cellsS58 a3 (c6, c7))) (cellsS58 a3 (c6, c7)) (by kernel_rfl) (by kernel_rfl) (by kernel_rfl) (by kernel_rfl) (by kernel_rfl) (by kernel_rfl) rfl rfl ?_)
      intro w hS
      have hC := hC.again ⟨_, _, hS.re [3, 3] [] rfl (sub_cons 2 rfl sub_self)⟩
      refine ⟨hC, ?_⟩
      refine ED.one 7 0 (bm 8 255) (by kernel_rfl) (by kernel_rfl) (by kernel_rfl) (EO.storeBox (os' := Ass.box 58 o7 (cellsS58 a3 (c6, c7)) :: Ass.box 58 j2 (cellsS58 b3 (m3, n3)) :: Ass.box 71 c4 [ia 0, ib a9, ia 2, ia 3, ie 5, ia 1] :: Ass.deep 29 32 kS32 c2 c3 c1 :: os) hS 1 rfl 58 0 (ag (cellsS58 b3 (m3, n3))) (cellsS58 b3 (m3, n3)) (by kernel_rfl) (by kernel_rfl) (by kernel_rfl) (by kernel_rfl) (by kernel_rfl) (by kernel_rfl) rfl rfl ?_)
      intro w hS
      have hC := hC.again ⟨_, _, hS.re [3, 3] [] rfl (sub_cons 2 rfl sub_self)⟩
      refine ⟨hC, ?_⟩
      refine ED.done (by kernel_rfl) ?_
      refine EQ.to ?_
      refine EQ.keep [2, 7, 9, 10] [(2, ig a10), (7, sv c2 c3 c1), (9, pt o7 0), (10, pt j2 0)] (by kernel_rfl) ?_
      exact fun a ha => ⟨j2, o7, m3, n3, c6, c7, ha, (hS.re [3, 3, 2, 3] [] rfl (sub_cons 0 rfl (sub_cons 1 rfl (sub_cons 2 rfl (sub_tail (sub_tail (sub_tail (sub_self))))))))⟩
     ·refine EO.alloc hS 58 (ag (cellsS58 zS58 (none, 0))) (cellsS58 zS58 (none, 0)) 9 (by kernel_rfl) (by kernel_rfl) (by kernel_rfl) (by kernel_rfl) (by first | rfl | kernel_rfl) ?_
      intro o8 w hS
      have hC := hC.again ⟨_, _, hS.re [3, 3] [] rfl (sub_cons 1 rfl sub_self)⟩
      refine ⟨hC, ?_⟩
      refine ED.at' (bm 8 55) (by kernel_rfl) ?_
      have hq := confidantref9_New.calls i2 hS
      refine ED.one 3 2 (bm 8 63) (by kernel_rfl) (by kernel_rfl) (by kernel_rfl) (EO.callD 37 [ib 4, ag [ia 0, ib a9, ia 2, ia 3, ie 5, ia 1]] _ 28 (by kernel_rfl) (by kernel_rfl) (by kernel_rfl) hq ?_)
      rintro v w ⟨m4, n4, rfl, hS⟩
      have hC := hC.again ⟨_, _, hS.re [3, 3] [] rfl (sub_cons 2 rfl sub_self)⟩
      refine ⟨hC, ?_⟩
      refine ED.one 6 1 (bm 8 127) (by kernel_rfl) (by kernel_rfl) (by kernel_rfl) (EO.storeBox (os' := Ass.box 58 o8 (cellsS58 a3 (c6, c7)) :: Ass.box 58 j2 (cellsS58 zS58 (none, 0)) :: Ass.box 71 c4 [ia 0, ib a9, ia 2, ia 3, ie 5, ia 1] :: Ass.deep 29 32 kS32 c2 c3 c1 :: os) hS 0 rfl 58 0 (ag (cellsS58 a3 (c6, c7))) (cellsS58 a3 (c6, c7)) (by kernel_rfl) (by kernel_rfl) (by kernel_rfl) (by kernel_rfl) (by kernel_rfl) (by kernel_rfl) rfl rfl ?_)
      intro w hS
      have hC := hC.again ⟨_, _, hS.re [3, 3] [] rfl (sub_cons 2 rfl sub_self)⟩
      refine ⟨hC, ?_⟩
      refine ED.one 7 0 (bm 8 255) (by kernel_rfl) (by kernel_rfl) (by kernel_rfl) (EO.storeBox (os' := Ass.box 58 o8 (cellsS58 a3 (c6, c7)) :: Ass.box 58 j2 (cellsS58 b3 (m4, n4)) :: Ass.box 71 c4 [ia 0, ib a9, ia 2, ia 3, ie 5, ia 1] :: Ass.deep 29 32 kS32 c2 c3 c1 :: os) hS 1 rfl 58 0 (ag (cellsS58 b3 (m4, n4))) (cellsS58 b3 (m4, n4)) (by kernel_rfl) (by kernel_rfl) (by kernel_rfl) (by kernel_rfl) (by kernel_rfl) (by kernel_rfl) rfl rfl ?_)
      intro w hS
      have hC := hC.again ⟨_, _, hS.re [3, 3] [] rfl (sub_cons 2 rfl sub_self)⟩
      refine ⟨hC, ?_⟩
      refine ED.done (by kernel_rfl) ?_
      refine EQ.to ?_
      refine EQ.keep [2, 7, 9, 10] [(2, ig a10), (7, sv c2 c3 c1), (9, pt o8 0), (10, pt j2 0)] (by kernel_rfl) ?_
      exact fun a ha => ⟨j2, o8, m4, n4, c6, c7, ha, (hS.re [3, 3, 2, 3] [] rfl (sub_cons 0 rfl (sub_cons 1 rfl (sub_cons 2 rfl (sub_tail (sub_tail (sub_tail (sub_self))))))))⟩
   ·refine EO.alloc hS 58 (ag (cellsS58 zS58 (none, 0))) (cellsS58 zS58 (none, 0)) 9 (by kernel_rfl) (by kernel_rfl) (by kernel_rfl) (by kernel_rfl) (by first | rfl | kernel_rfl) ?_
    intro g9 w hS
    have hC := hC.again ⟨_, _, hS.re [2, 2] [] rfl sub_self⟩
    refine ⟨hC, ?_⟩
    refine ED.at' (bm 8 21) (by kernel_rfl) ?_
    refine ED.two 1 5 4 (by kernel_rfl) (by kernel_rfl) ?_ ?_
    ·have hq := task_New.calls j9 hS
     refine EO.callD 36 [ib 4, ag [ia 0, ib a9, ia 2, ia 3, ie 5, ia 1]] _ 26 (by kernel_rfl) (by kernel_rfl) (by kernel_rfl) hq ?_
     rintro v w ⟨i3, i5, rfl, hS⟩
     have hC := hC.again ⟨_, _, hS.re [2, 2] [] rfl (sub_cons 1 rfl sub_self)⟩
     refine ⟨hC, ?_⟩
     refine ED.at' (bm 8 23) (by kernel_rfl) ?_
     refine ED.two 3 5 3 (by kernel_rfl) (by kernel_rfl) ?_ ?_
     ·have hq := confidantref9_New.calls i2 hS
      refine EO.callD 37 [ib 4, ag [ia 0, ib a9, ia 2, ia 3, ie 5, ia 1]] _ 28 (by kernel_rfl) (by kernel_rfl) (by kernel_rfl) hq ?_
      rintro v w ⟨m5, n5, rfl, hS⟩
      have hC := hC.again ⟨_, _, hS.re [2, 2] [] rfl (sub_cons 2 rfl sub_self)⟩
      refine ⟨hC, ?_⟩
      refine ED.at' (bm 8 31) (by kernel_rfl) ?_
      refine ED.one 5 2 (bm 8 63) (by kernel_rfl) (by kernel_rfl) (by kernel_rfl) (EO.alloc hS 58 (ag (cellsS58 zS58 (none, 0))) (cellsS58 zS58 (none, 0)) 10 (by kernel_rfl) (by kernel_rfl) (by kernel_rfl) (by kernel_rfl) (by first | rfl | kernel_rfl) ?_)
      intro o9 w hS
      have hC := hC.again ⟨_, _, hS.re [3, 3] [] rfl (sub_cons 2 rfl sub_self)⟩
      refine ⟨hC, ?_⟩
      refine ED.one 6 1 (bm 8 127) (by kernel_rfl) (by kernel_rfl) (by kernel_rfl) (EO.storeBox (os' := Ass.box 58 o9 (cellsS58 zS58 (none, 0)) :: Ass.box 58 g9 (cellsS58 a3 (i3, i5)) :: Ass.box 71 c4 [ia 0, ib a9, ia 2, ia 3, ie 5, ia 1] :: Ass.deep 29 32 kS32 c2 c3 c1 :: os) hS 1 rfl 58 0 (ag (cellsS58 a3 (i3, i5))) (cellsS58 a3 (i3, i5)) (by kernel_rfl) (by kernel_rfl) (by kernel_rfl) (by kernel_rfl) (by kernel_rfl) (by kernel_rfl) rfl rfl ?_)
      intro w hS
      have hC := hC.again ⟨_, _, hS.re [3, 3] [] rfl (sub_cons 2 rfl sub_self)⟩
      refine ⟨hC, ?_⟩
      refine ED.one 7 0 (bm 8 255) (by kernel_rfl) (by kernel_rfl) (by kernel_rfl) (EO.storeBox (os' := Ass.box 58 o9 (cellsS58 b3 (m5, n5)) :: Ass.box 58 g9 (cellsS58 a3 (i3, i5)) :: Ass.box 71 c4 [ia 0, ib a9, ia 2, ia 3, ie 5, ia 1] :: Ass.deep 29 32 kS32 c2 c3 c1 :: os) hS 0 rfl 58 0 (ag (cellsS58 b3 (m5, n5))) (cellsS58 b3 (m5, n5)) (by kernel_rfl) (by kernel_rfl) (by kernel_rfl) (by kernel_rfl) (by kernel_rfl) (by kernel_rfl) rfl rfl ?_)
      intro w hS
      have hC := hC.again ⟨_, _, hS.re [3, 3] [] rfl (sub_cons 2 rfl sub_self)⟩
      refine ⟨hC, ?_⟩
      refine ED.done (by kernel_rfl) ?_
      refine EQ.to ?_
      refine EQ.keep [2, 7, 9, 10] [(2, ig a10), (7, sv c2 c3 c1), (9, pt g9 0), (10, pt o9 0)] (by kernel_rfl) ?_
      exact fun a ha => ⟨o9, g9, m5, n5, i3, i5, ha, (hS.re [3, 3, 3, 3] [] rfl (sub_cons 0 rfl (sub_cons 1 rfl (sub_cons 2 rfl (sub_tail (sub_tail (sub_tail (sub_self))))))))⟩
     ·refine EO.alloc hS 58 (ag (cellsS58 zS58 (none, 0))) (cellsS58 zS58 (none, 0)) 10 (by kernel_rfl) (by kernel_rfl) (by kernel_rfl) (by kernel_rfl) (by first | rfl | kernel_rfl) ?_
      intro p0 w hS
      have hC := hC.again ⟨_, _, hS.re [3, 3] [] rfl (sub_cons 1 rfl sub_self)⟩
      refine ⟨hC, ?_⟩
      refine ED.at' (bm 8 55) (by kernel_rfl) ?_
      have hq := confidantref9_New.calls i2 hS
      refine ED.one 3 2 (bm 8 63) (by kernel_rfl) (by kernel_rfl) (by kernel_rfl) (EO.callD 37 [ib 4, ag [ia 0, ib a9, ia 2, ia 3, ie 5, ia 1]] _ 28 (by kernel_rfl) (by kernel_rfl) (by kernel_rfl) hq ?_)
      rintro v w ⟨m6, n6, rfl, hS⟩
      have hC := hC.again ⟨_, _, hS.re [3, 3] [] rfl (sub_cons 2 rfl sub_self)⟩
      refine ⟨hC, ?_⟩
      refine ED.one 6 1 (bm 8 127) (by kernel_rfl) (by kernel_rfl) (by kernel_rfl) (EO.storeBox (os' := Ass.box 58 p0 (cellsS58 zS58 (none, 0)) :: Ass.box 58 g9 (cellsS58 a3 (i3, i5)) :: Ass.box 71 c4 [ia 0, ib a9, ia 2, ia 3, ie 5, ia 1] :: Ass.deep 29 32 kS32 c2 c3 c1 :: os) hS 1 rfl 58 0 (ag (cellsS58 a3 (i3, i5))) (cellsS58 a3 (i3, i5)) (by kernel_rfl) (by kernel_rfl) (by kernel_rfl) (by kernel_rfl) (by kernel_rfl) (by kernel_rfl) rfl rfl ?_)
      intro w hS
      have hC := hC.again ⟨_, _, hS.re [3, 3] [] rfl (sub_cons 2 rfl sub_self)⟩
      refine ⟨hC, ?_⟩
      refine ED.one 7 0 (bm 8 255) (by kernel_rfl) (by kernel_rfl) (by kernel_rfl) (EO.storeBox (os' := Ass.box 58 p0 (cellsS58 b3 (m6, n6)) :: Ass.box 58 g9 (cellsS58 a3 (i3, i5)) :: Ass.box 71 c4 [ia 0, ib a9, ia 2, ia 3, ie 5, ia 1] :: Ass.deep 29 32 kS32 c2 c3 c1 :: os) hS 0 rfl 58 0 (ag (cellsS58 b3 (m6, n6))) (cellsS58 b3 (m6, n6)) (by kernel_rfl) (by kernel_rfl) (by kernel_rfl) (by kernel_rfl) (by kernel_rfl) (by kernel_rfl) rfl rfl ?_)
      intro w hS
      have hC := hC.again ⟨_, _, hS.re [3, 3] [] rfl (sub_cons 2 rfl sub_self)⟩
      refine ⟨hC, ?_⟩
      refine ED.done (by kernel_rfl) ?_
      refine EQ.to ?_
      refine EQ.keep [2, 7, 9, 10] [(2, ig a10), (7, sv c2 c3 c1), (9, pt g9 0), (10, pt p0 0)] (by kernel_rfl) ?_
      exact fun a ha => ⟨p0, g9, m6, n6, i3, i5, ha, (hS.re [3, 3, 3, 3] [] rfl (sub_cons 0 rfl (sub_cons 1 rfl (sub_cons 2 rfl (sub_tail (sub_tail (sub_tail (sub_self))))))))⟩
    ·refine EO.alloc hS 58 (ag (cellsS58 zS58 (none, 0))) (cellsS58 zS58 (none, 0)) 10 (by kernel_rfl) (by kernel_rfl) (by kernel_rfl) (by kernel_rfl) (by first | rfl | kernel_rfl) ?_
     intro p1 w hS
     have hC := hC.again ⟨_, _, hS.re [3, 3] [] rfl sub_self⟩
     refine ⟨hC, ?_⟩
     refine ED.at' (bm 8 53) (by kernel_rfl) ?_
     have hq := task_New.calls j9 hS
     refine ED.one 1 3 (bm 8 55) (by kernel_rfl) (by kernel_rfl) (by kernel_rfl) (EO.callD 36 [ib 4, ag [ia 0, ib a9, ia 2, ia 3, ie 5, ia 1]] _ 26 (by kernel_rfl) (by kernel_rfl) (by kernel_rfl) hq ?_)
     rintro v w ⟨j5, j7, rfl, hS⟩
     have hC := hC.again ⟨_, _, hS.re [3, 3] [] rfl (sub_cons 1 rfl sub_self)⟩
     refine ⟨hC, ?_⟩
     have hq := confidantref9_New.calls i2 hS
     refine ED.one 3 2 (bm 8 63) (by kernel_rfl) (by kernel_rfl) (by kernel_rfl) (EO.callD 37 [ib 4, ag [ia 0, ib a9, ia 2, ia 3, ie 5, ia 1]] _ 28 (by kernel_rfl) (by kernel_rfl) (by kernel_rfl) hq ?_)
     rintro v w ⟨m7, n7, rfl, hS⟩
     have hC := hC.again ⟨_, _, hS.re [3, 3] [] rfl (sub_cons 2 rfl sub_self)⟩
     refine ⟨hC, ?_⟩
     refine ED.one 6 1 (bm 8 127) (by kernel_rfl) (by kernel_rfl) (by kernel_rfl) (EO.storeBox (os' := Ass.box 58 p1 (cellsS58 zS58 (none, 0)) :: Ass.box 58 g9 (cellsS58 a3 (j5, j7)) :: Ass.box 71 c4 [ia 0, ib a9, ia 2, ia 3, ie 5, ia 1] :: Ass.deep 29 32 kS32 c2 c3 c1 :: os) hS 1 rfl 58 0 (ag (cellsS58 a3 (j5, j7))) (cellsS58 a3 (j5, j7)) (by kernel_rfl) (by kernel_rfl) (by kernel_rfl) (by kernel_rfl) (by kernel_rfl) (by kernel_rfl) rfl rfl ?_)
     intro w hS
     have hC := hC.again ⟨_, _, hS.re [3, 3] [] rfl (sub_cons 2 rfl sub_self)⟩
     refine ⟨hC, ?_⟩
     refine ED.one 7 0 (bm 8 255) (by kernel_rfl) (by kernel_rfl) (by kernel_rfl) (EO.storeBox (os' := Ass.box 58 p1 (cellsS58 b3 (m7, n7)) :: Ass.box 58 g9 (cellsS58 a3 (j5, j7)) :: Ass.box 71 c4 [ia 0, ib a9, ia 2, ia 3, ie 5, ia 1] :: Ass.deep 29 32 kS32 c2 c3 c1 :: os) hS 0 rfl 58 0 (ag (cellsS58 b3 (m7, n7))) (cellsS58 b3 (m7, n7)) (by kernel_rfl) (by kernel_rfl) (by kernel_rfl) (by kernel_rfl) (by kernel_rfl) (by kernel_rfl) rfl rfl ?_)
     intro w hS
     have hC := hC.again ⟨_, _, hS.re [3, 3] [] rfl (sub_cons 2 rfl sub_self)⟩
     refine ⟨hC, ?_⟩
     refine ED.done (by kernel_rfl) ?_
     refine EQ.to ?_
     refine EQ.keep [2, 7, 9, 10] [(2, ig a10), (7, sv c2 c3 c1), (9, pt g9 0), (10, pt p1 0)] (by kernel_rfl) ?_
     exact fun a ha => ⟨p1, g9, m7, n7, j5, j7, ha, (hS.re [3, 3, 3, 3] [] rfl (sub_cons 0 rfl (sub_cons 1 rfl (sub_cons 2 rfl (sub_tail (sub_tail (sub_tail (sub_self))))))))⟩
   ·refine EO.alloc hS 58 (ag (cellsS58 zS58 (none, 0))) (cellsS58 zS58 (none, 0)) 10 (by kernel_rfl) (by kernel_rfl) (by kernel_rfl) (by kernel_rfl) (by first | rfl | kernel_rfl) ?_
    intro i0 w hS
    have hC := hC.again ⟨_, _, hS.re [2, 2] [] rfl sub_self⟩
    refine ⟨hC, ?_⟩
    refine ED.at' (bm 8 37) (by kernel_rfl) ?_
    refine ED.two 1 4 4 (by kernel_rfl) (by kernel_rfl) ?_ ?_
    ·have hq := task_New.calls j9 hS
     refine EO.callD 36 [ib 4, ag [ia 0, ib a9, ia 2, ia 3, ie 5, ia 1]] _ 26 (by kernel_rfl) (by kernel_rfl) (by kernel_rfl) hq ?_
     rintro v w ⟨i4, i6, rfl, hS⟩
     have hC := hC.again ⟨_, _, hS.re [2, 2] [] rfl (sub_cons 1 rfl sub_self)⟩
     refine ⟨hC, ?_⟩
     refine ED.at' (bm 8 39) (by kernel_rfl) ?_
     refine ED.two 3 4 3 (by kernel_rfl) (by kernel_rfl) ?_ ?_
     ·have hq := confidantref9_New.calls i2 hS
      refine EO.callD 37 [ib 4, ag [ia 0, ib a9, ia 2, ia 3, ie 5, ia 1]] _ 28 (by kernel_rfl) (by kernel_rfl) (by kernel_rfl) hq ?_
      rintro v w ⟨m8, n8, rfl, hS⟩
      have hC := hC.again ⟨_, _, hS.re [2, 2] [] rfl (sub_cons 2 rfl sub_self)⟩
      refine ⟨hC, ?_⟩
      refine ED.at' (bm 8 47) (by kernel_rfl) ?_
      refine ED.one 4 2 (bm 8 63) (by kernel_rfl) (by kernel_rfl) (by kernel_rfl) (EO.alloc hS 58 (ag (cellsS58 zS58 (none, 0))) (cellsS58 zS58 (none, 0)) 9 (by kernel_rfl) (by kernel_rfl) (by kernel_rfl) (by kernel_rfl) (by first | rfl | kernel_rfl) ?_)
      intro p2 w hS
      have hC := hC.again ⟨_, _, hS.re [3, 3] [] rfl (sub_cons 2 rfl sub_self)⟩
      refine ⟨hC, ?_⟩
      refine ED.one 6 1 (bm 8 127) (by kernel_rfl) (by kernel_rfl) (by kernel_rfl) (EO.storeBox (os' := Ass.box 58 p2 (cellsS58 a3 (i4, i6)) :: Ass.box 58 i0 (cellsS58 zS58 (none, 0)) :: Ass.box 71 c4 [ia 0, ib a9, ia 2, ia 3, ie 5, ia 1] :: Ass.deep 29 32 kS32 c2 c3 c1 :: os) hS 0 rfl 58 0 (ag (cellsS58 a3 (i4, i6))) (cellsS58 a3 (i4, i6)) (by kernel_rfl) (by kernel_rfl) (by kernel_rfl) (by kernel_rfl) (by kernel_rfl) (by kernel_rfl) rfl rfl ?_)
      intro w hS
      have hC := hC.again ⟨_, _, hS.re [3, 3] [] rfl (sub_cons 2 rfl sub_self)⟩
      refine ⟨hC, ?_⟩
      refine ED.one 7 0 (bm 8 255) (by kernel_rfl) (by kernel_rfl) (by kernel_rfl) (EO.storeBox (os' := Ass.box 58 p2 (cellsS58 a3 (i4, i6)) :: Ass.box 58 i0 (cellsS58 b3 (m8, n8)) :: Ass.box 71 c4 [ia 0, ib a9, ia 2, ia 3, ie 5, ia 1] :: Ass.deep 29 32 kS32 c2 c3 c1 :: os) hS 1 rfl 58 0 (ag (cellsS58 b3 (m8, n8))) (cellsS58 b3 (m8, n8)) (by kernel_rfl) (by kernel_rfl) (by kernel_rfl) (by kernel_rfl) (by kernel_rfl) (by kernel_rfl) rfl rfl ?_)
      intro w hS
      have hC := hC.again ⟨_, _, hS.re [3, 3] [] rfl (sub_cons 2 rfl sub_self)⟩
      refine ⟨hC, ?_⟩
      refine ED.done (by kernel_rfl) ?_
      refine EQ.to ?_
      refine EQ.keep [2, 7, 9, 10] [(2, ig a10), (7, sv c2 c3 c1), (9, pt p2 0), (10, pt i0 0)] (by kernel_rfl) ?_
      exact fun a ha => ⟨i0, p2, m8, n8, i4, i6, ha, (hS.re [3, 3, 2, 3] [] rfl (sub_cons 0 rfl (sub_cons 1 rfl (sub_cons 2 rfl (sub_tail (sub_tail (sub_tail (sub_self))))))))⟩
     ·refine EO.alloc hS 58 (ag (cellsS58 zS58 (none, 0))) (cellsS58 zS58 (none, 0)) 9 (by kernel_rfl) (by kernel_rfl) (by kernel_rfl) (by kernel_rfl) (by first | rfl | kernel_rfl) ?_
      intro p3 w hS
      have hC := hC.again ⟨_, _, hS.re [3, 3] [] rfl (sub_cons 1 rfl sub_self)⟩
      refine ⟨hC, ?_⟩
      refine ED.at' (bm 8 55) (by kernel_rfl) ?_
      have hq := confidantref9_New.calls i2 hS
      refine ED.one 3 2 (bm 8 63) (by kernel_rfl) (by kernel_rfl) (by kernel_rfl) (EO.callD 37 [ib 4, ag [ia 0, ib a9, ia 2, ia 3, ie 5, ia 1]] _ 28 (by kernel_rfl) (by kernel_rfl) (by kernel_rfl) hq ?_)
      rintro v w ⟨m9, n9, rfl, hS⟩
      have hC := hC.again ⟨_, _, hS.re [3, 3] [] rfl (sub_cons 2 rfl sub_self)⟩
      refine ⟨hC, ?_⟩
      refine ED.one 6 1 (bm 8 127) (by kernel_rfl) (by kernel_rfl) (by kernel_rfl) (EO.storeBox (os' := Ass.box 58 p3 (cellsS58 a3 (i4, i6)) :: Ass.box 58 i0 (cellsS58 zS58 (none, 0)) :: Ass.box 71 c4 [ia 0, ib a9, ia 2, ia 3, ie 5, ia 1] :: Ass.deep 29 32 kS32 c2 c3 c1 :: os) hS 0 rfl 58 0 (ag (cellsS58 a3 (i4, i6))) (cellsS58 a3 (i4, i6)) (by kernel_rfl) (by kernel_rfl) (by kernel_rfl) (by kernel_rfl) (by kernel_rfl) (by kernel_rfl) rfl rfl ?_)
      intro w hS
      have hC := hC.again ⟨_, _, hS.re [3, 3] [] rfl (sub_cons 2 rfl sub_self)⟩
      refine ⟨hC, ?_⟩
      refine ED.one 7 0 (bm 8 255) (by kernel_rfl) (by kernel_rfl) (by kernel_rfl) (EO.storeBox (os' := Ass.box 58 p3 (cellsS58 a3 (i4, i6)) :: Ass.box 58 i0 (cellsS58 b3 (m9, n9)) :: Ass.box 71 c4 [ia 0, ib a9, ia 2, ia 3, ie 5, ia 1] :: Ass.deep 29 32 kS32 c2 c3 c1 :: os) hS 1 rfl 58 0 (ag (cellsS58 b3 (m9, n9))) (cellsS58 b3 (m9, n9)) (by kernel_rfl) (by kernel_rfl) (by kernel_rfl) (by kernel_rfl) (by kernel_rfl) (by kernel_rfl) rfl rfl ?_)
      intro w hS
      have hC := hC.again ⟨_, _, hS.re [3, 3] [] rfl (sub_cons 2 rfl sub_self)⟩
      refine ⟨hC, ?_⟩
      refine ED.done (by kernel_rfl) ?_
      refine EQ.to ?_
      refine EQ.keep [2, 7, 9, 10] [(2, ig a10), (7, sv c2 c3 c1), (9, pt p3 0), (10, pt i0 0)] (by kernel_rfl) ?_
      exact fun a ha => ⟨i0, p3, m9, n9, i4, i6, ha, (hS.re [3, 3, 2, 3] [] rfl (sub_cons 0 rfl (sub_cons 1 rfl (sub_cons 2 rfl (sub_tail (sub_tail (sub_tail (sub_self))))))))⟩
    ·refine EO.alloc hS 58 (ag (cellsS58 zS58 (none, 0))) (cellsS58 zS58 (none, 0)) 9 (by kernel_rfl) (by kernel_rfl) (by kernel_rfl) (by kernel_rfl) (by first | rfl | kernel_rfl) ?_
     intro p4 w hS
     have hC := hC.again ⟨_, _, hS.re [3, 3] [] rfl sub_self⟩
     refine ⟨hC, ?_⟩
     refine ED.at' (bm 8 53) (by kernel_rfl) ?_
     have hq := task_New.calls j9 hS
     refine ED.one 1 3 (bm 8 55) (by kernel_rfl) (by kernel_rfl) (by kernel_rfl) (EO.callD 36 [ib 4, ag [ia 0, ib a9, ia 2, ia 3, ie 5, ia 1]] _ 26 (by kernel_rfl) (by kernel_rfl) (by kernel_rfl) hq ?_)
     rintro v w ⟨j6, j8, rfl, hS⟩
     have hC := hC.again ⟨_, _, hS.re [3, 3] [] rfl (sub_cons 1 rfl sub_self)⟩
     refine ⟨hC, ?_⟩
     have hq := confidantref9_New.calls i2 hS
     refine ED.one 3 2 (bm 8 63) (by kernel_rfl) (by kernel_rfl) (by kernel_rfl) (EO.callD 37 [ib 4, ag [ia 0, ib a9, ia 2, ia 3, ie 5, ia 1]] _ 28 (by kernel_rfl) (by kernel_rfl) (by kernel_rfl) hq ?_)
     rintro v w ⟨n0, o0, rfl, hS⟩
     have hC := hC.again ⟨_, _, hS.re [3, 3] [] rfl (sub_cons 2 rfl sub_self)⟩
     refine ⟨hC, ?_⟩
     refine ED.one 6 1 (bm 8 127) (by kernel_rfl) (by kernel_rfl) (by kernel_rfl) (EO.storeBox (os' := Ass.box 58 p4 (cellsS58 a3 (j6, j8)) :: Ass.box 58 i0 (cellsS58 zS58 (none, 0)) :: Ass.box 71 c4 [ia 0, ib a9, ia 2, ia 3, ie 5, ia 1] :: Ass.deep 29 32 kS32 c2 c3 c1 :: os) hS 0 rfl 58 0 (ag (cellsS58 a3 (j6, j8))) (cellsS58 a3 (j6, j8)) (by kernel_rfl) (by kernel_rfl) (by kernel_rfl) (by kernel_rfl) (by kernel_rfl) (by kernel_rfl) rfl rfl ?_)
     intro w hS
     have hC := hC.again ⟨_, _, hS.re [3, 3] [] rfl (sub_cons 2 rfl sub_self)⟩
     refine ⟨hC, ?_⟩
     refine ED.one 7 0 (bm 8 255) (by kernel_rfl) (by kernel_rfl) (by kernel_rfl) (EO.storeBox (os' := Ass.box 58 p4 (cellsS58 a3 (j6, j8)) :: Ass.box 58 i0 (cellsS58 b3 (n0, o0)) :: Ass.box 71 c4 [ia 0, ib a9, ia 2, ia 3, ie 5, ia 1] :: Ass.deep 29 32 kS32 c2 c3 c1 :: os) hS 1 rfl 58 0 (ag (cellsS58 b3 (n0, o0))) (cellsS58 b3 (n0, o0)) (by kernel_rfl) (by kernel_rfl) (by kernel_rfl) (by kernel_rfl) (by kernel_rfl) (by kernel_rfl) rfl rfl ?_)
     intro w hS
     have hC := hC.again ⟨_, _, hS.re [3, 3] [] rfl (sub_cons 2 rfl sub_self)⟩
     refine ⟨hC, ?_⟩
     refine ED.done (by kernel_rfl) ?_
     refine EQ.to ?_
     refine EQ.keep [2, 7, 9, 10] [(2, ig a10), (7, sv c2 c3 c1), (9, pt p4 0), (10, pt i0 0)] (by kernel_rfl) ?_
     exact fun a ha => ⟨i0, p4, n0, o0, j6, j8, ha, (hS.re [3, 3, 2, 3] [] rfl (sub_cons 0 rfl (sub_cons 1 rfl (sub_cons 2 rfl (sub_tail (sub_tail (sub_tail (sub_self))))))))⟩
  ·obtain ⟨a5, a6, g5, g7, g6, g8, ha, hS⟩ := hI
   refine EQ.at ?_ a ha
   clear ha a
   refine EQ.code ?_
   refine EW.sq (by kernel_rfl) ?_
   refine EW.sq (by kernel_rfl) ?_
   refine EW.rg (by kernel_rfl) ?_
   refine EL.quick 1 [2, 7, 9, 10, 11] [(2, ig a10), (7, sv c2 c3 c1), (9, pt a6 0), (10, pt a5 0), (11, ia 0)] (by kernel_rfl) ?_
   refine EL.done (by kernel_rfl) ?_
   refine EQ.code ?_
   refine EW.bl 0 (by kernel_rfl) ?_
   have hS := St.frDeep hS 3 rfl
   refine EW.lp (fun n a w => ∃ e5 : Int, ∃ e6 : Int, ∃ e7 : Int, ∃ c9 : List Int, ∃ e8 : Int, ∃ e9 : Int, ∃ f9 : Int, ∃ g0 : Int, ∃ g1 : Int, ∃ g2 : Int, ∃ g3 : Int, ∃ g4 : Int, ∃ d4 : Int, ∃ d5 : Int, ∃ d6 : Int, ∃ c8 : List Int, ∃ d7 : Int, ∃ d8 : Int, ∃ d9 : Int, ∃ e0 : Int, ∃ e1 : Int, ∃ e2 : Int, ∃ e3 : Int, ∃ e4 : Int, ∃ a4 : List (List S32), ∃ b6 : Int, ∃ d2 : Option Addr, ∃ d3 : Nat, ∃ d0 : Option Addr, ∃ d1 : Nat, ∃ a7 : Option Addr, ∃ a8 : Nat, Sat 95 [(2, ig a10), (7, sv a7 a8 a4), (9, pt a6 0), (10, pt a5 0), (11, ia b6)] a ∧ St B w (Ass.box 58 a5 [ib e5, ia e6, ia e7, sv d2 d3 c9, ib e8, ib e9, ib f9, ib g0, ia g1, ia g2, ie g3, ia g4] :: Ass.box 58 a6 [ib d4, ia d5, ia d6, sv d0 d1 c8, ib d7, ib d8, ib d9, ib e0, ia e1, ia e2, ie e3, ia e4] :: Ass.box 71 c4 [ia 0, ib a9, ia 2, ia 3, ie 5, ia 1] :: os) (Ro.sl (Kd.int .i32) d2 d3 c9 :: Ro.sl (Kd.int .i32) d0 d1 c8 :: Ro.sl (Kd.slice kS32) a7 a8 a4 :: Ro.sl (Kd.int .i32) g5 g7 b3.f3 :: Ro.sl (Kd.int .i32) g6 g8 a3.f3 :: Ro.sl (Kd.int .u8) A7 C8 l6 :: rs) ∧ confidantlaw10_TaskRuns.l0 K a10 n e5 e6 e7 c9 e8 e9 f9 g0 g1 g2 g3 g4 d4 d5 d6 c8 d7 d8 d9 e0 e1 e2 e3 e4 a4 b6 = some q2) K (by kernel_rfl) ?_ (fun n a w hI => ?_)
   ·refine EQ.keep [2, 7, 9, 10, 11] [(2, ig a10), (7, sv c2 c3 c1), (9, pt a6 0), (10, pt a5 0), (11, ia 0)] (by kernel_rfl) ?_
    exact fun a ha => ⟨b3.f0, b3.f1, b3.f2, b3.f3, b3.f4.f0, b3.f4.f1, b3.f4.f2, b3.f4.f3, b3.f5, b3.f6, b3.f7, b3.f8, a3.f0, a3.f1, a3.f2, a3.f3, a3.f4.f0, a3.f4.f1, a3.f4.f2, a3.f4.f3, a3.f5, a3.f6, a3.f7, a3.f8, c1, 0, g5, g7, g6, g8, c2, c3, ha, (hS.re [2, 2, 2] [] rfl (sub_cons 1 rfl (sub_cons 2 rfl (sub_cons 0 rfl (sub_cons 1 rfl (sub_cons 2 rfl (sub_cons 3 rfl (sub_tail (sub_tail (sub_tail (sub_tail (sub_self)))))))))))), H⟩
   obtain ⟨e5, e6, e7, c9, e8, e9, f9, g0, g1, g2, g3, g4, d4, d5, d6, c8, d7, d8, d9, e0, e1, e2, e3, e4, a4, b6, d2, d3, d0, d1, a7, a8, ha, hS, H⟩ := hI
   obtain _ | n := n
   ·simp [confidantlaw10_TaskRuns.l0] at H
   rw [confidantlaw10_TaskRuns.l0.eq_2] at H
   refine EW.at ?_ a ha
   clear ha a
   refine EW.sq (by kernel_rfl) ?_
   refine EW.sq (by kernel_rfl) ?_
   refine EW.rg (by kernel_rfl) ?_
   refine EL.quick 4 [2, 7, 9, 10, 11, 32] [(2, ig a10), (7, sv a7 a8 a4), (9, pt a6 0), (10, pt a5 0), (11, ia b6), (32, .bool (decide (b6 < (IntKind.i64.wrap a10))))] (by kernel_rfl) ?_
   refine EL.done (by kernel_rfl) ?_
   refine EQ.code ?_
   refine EW.cdP (b6 < (IntKind.i64.wrap a10)) (by kernel_rfl) (by kernel_rfl) (fun q5 => ?_) (fun q5 => ?_)
   ·rw [if_pos q5] at H
    refine EW.skip (by kernel_rfl) ?_
    refine EQ.code ?_
    refine EW.sq (by kernel_rfl) ?_
    refine EW.bl 1 (by kernel_rfl) ?_
    refine EW.sq (by kernel_rfl) ?_
    refine EW.rg (by kernel_rfl) ?_
    refine EL.of (EO.Y (YO.loadBox hS 1 rfl 58 0 12 (ag [ib d4, ia d5, ia d6, sv d0 d1 c8, ib d7, ib d8, ib d9, ib e0, ia e1, ia e2, ie e3, ia e4]) 36 (by kernel_rfl) (by kernel_rfl) (by kernel_rfl) (by kernel_rfl)) ?_)
    refine EL.quick 1 [2, 7, 9, 10, 11, 36, 37] [(2, ig a10), (7, sv a7 a8 a4), (9, pt a6 0), (10, pt a5 0), (11, ia b6), (36, ag [ib d4, ia d5, ia d6, sv d0 d1 c8, ib d7, ib d8, ib d9, ib e0, ia e1, ia e2, ie e3, ia e4]), (37, sv a7 a8 a4)] (by kernel_rfl) ?_
    have hS : St B _ (Ass.box 58 a5 [ib e5, ia e6, ia e7, sv d2 d3 c9, ib e8, ib e9, ib f9, ib g0, ia g1, ia g2, ie g3, ia g4] :: Ass.box 58 a6 [ib d4, ia d5, ia d6, sv d0 d1 c8, ib d7, ib d8, ib d9, ib e0, ia e1, ia e2, ie e3, ia e4] :: Ass.box 71 c4 [ia 0, ib a9, ia 2, ia 3, ie 5, ia 1] :: os) (Ro.sl (Kd.int .i32) d0 d1 c8 :: Ro.sl (Kd.slice kS32) a7 a8 a4 :: Ro.sl (Kd.int .i32) d2 d3 c9 :: Ro.sl (Kd.int .i32) g5 g7 b3.f3 :: Ro.sl (Kd.int .i32) g6 g8 a3.f3 :: Ro.sl (Kd.int .u8) A7 C8 l6 :: rs) := hS.re [] [] rfl (sub_cons 1 rfl (sub_cons 2 rfl (sub_cons 0 rfl (sub_tail (sub_tail (sub_tail (sub_self)))))))
    obtain ⟨c0, a0, t0, H⟩ := b2_out H
    have hq := task_Step.calls t0 hS
    refine EL.of (EO.callD 28 [ag [ib d4, ia d5, ia d6, sv d0 d1 c8, ib d7, ib d8, ib d9, ib e0, ia e1, ia e2, ie e3, ia e4], sv a7 a8 a4] _ 38 (by kernel_rfl) (by kernel_rfl) (by kernel_rfl) hq ?_)
    rintro v w ⟨b4, b5, rfl, hS⟩
    refine EL.quick 3 [2, 7, 9, 10, 11, 39, 40] [(2, ig a10), (7, sv a7 a8 a4), (9, pt a6 0), (10, pt a5 0), (11, ia b6), (39, ag (cellsS58 a0 (b4, b5))), (40, ag (encS63 c0))] (by kernel_rfl) ?_
    refine EL.of (EO.alloc hS 58 (ag (cellsS58 zS58 (none, 0))) (cellsS58 zS58 (none, 0)) 12 (by kernel_rfl) (by kernel_rfl) (by kernel_rfl) (by kernel_rfl) (by first | rfl | kernel_rfl) ?_)
    intro a1 w hS
    refine EL.of (EO.alloc hS 63 (ag (encS63 zS63)) (encS63 zS63) 13 (by kernel_rfl) (by kernel_rfl) (by kernel_rfl) (by kernel_rfl) (by first | rfl | kernel_rfl) ?_)
    intro b0 w hS
    refine EL.of (EO.storeBox (os' := Ass.box 63 b0 (encS63 zS63) :: Ass.box 58 a1 (cellsS58 a0 (b4, b5)) :: Ass.box 58 a5 [ib e5, ia e6, ia e7, sv d2 d3 c9, ib e8, ib e9, ib f9, ib g0, ia g1, ia g2, ie g3, ia g4] :: Ass.box 58 a6 [ib d4, ia d5, ia d6, sv d0 d1 c8, ib d7, ib d8, ib d9, ib e0, ia e1, ia e2, ie e3, ia e4] :: Ass.box 71 c4 [ia 0, ib a9, ia 2, ia 3, ie 5, ia 1] :: os) hS 1 rfl 58 0 (ag (cellsS58 a0 (b4, b5))) (cellsS58 a0 (b4, b5)) (by kernel_rfl) (by kernel_rfl) (by kernel_rfl) (by kernel_rfl) (by kernel_rfl) (by kernel_rfl) rfl rfl ?_)
    intro w hS
    refine EL.of (EO.storeBox (os' := Ass.box 63 b0 (encS63 c0) :: Ass.box 58 a1 (cellsS58 a0 (b4, b5)) :: Ass.box 58 a5 [ib e5, ia e6, ia e7, sv d2 d3 c9, ib e8, ib e9, ib f9, ib g0, ia g1, ia g2, ie g3, ia g4] :: Ass.box 58 a6 [ib d4, ia d5, ia d6, sv d0 d1 c8, ib d7, ib d8, ib d9, ib e0, ia e1, ia e2, ie e3, ia e4] :: Ass.box 71 c4 [ia 0, ib a9, ia 2, ia 3, ie 5, ia 1] :: os) hS 0 rfl 63 0 (ag (encS63 c0)) (encS63 c0) (by kernel_rfl) (by kernel_rfl) (by kernel_rfl) (by kernel_rfl) (by kernel_rfl) (by kernel_rfl) rfl rfl ?_)
    intro w hS
    refine EL.done (by kernel_rfl) ?_
    refine EQ.code ?_
    refine EW.sq (by kernel_rfl) ?_
    refine EW.rg (by kernel_rfl) ?_
    refine EL.of (EO.Y (YO.loadBox hS 2 rfl 58 0 12 (ag [ib e5, ia e6, ia e7, sv d2 d3 c9, ib e8, ib e9, ib f9, ib g0, ia g1, ia g2, ie g3, ia g4]) 42 (by kernel_rfl) (by kernel_rfl) (by kernel_rfl) (by kernel_rfl)) ?_)
    refine EL.quick 1 [2, 7, 9, 10, 11, 12, 13, 42, 43] [(2, ig a10), (7, sv a7 a8 a4), (9, pt a6 0), (10, pt a5 0), (11, ia b6), (12, pt a1 0), (13, pt b0 0), (42, ag [ib e5, ia e6, ia e7, sv d2 d3 c9, ib e8, ib e9, ib f9, ib g0, ia g1, ia g2, ie g3, ia g4]), (43, sv a7 a8 a4)] (by kernel_rfl) ?_
    have hS : St B _ (Ass.box 63 b0 (encS63 c0) :: Ass.box 58 a1 (cellsS58 a0 (b4, b5)) :: Ass.box 58 a5 [ib e5, ia e6, ia e7, sv d2 d3 c9, ib e8, ib e9, ib f9, ib g0, ia g1, ia g2, ie g3, ia g4] :: Ass.box 58 a6 [ib d4, ia d5, ia d6, sv d0 d1 c8, ib d7, ib d8, ib d9, ib e0, ia e1, ia e2, ie e3, ia e4] :: Ass.box 71 c4 [ia 0, ib a9, ia 2, ia 3, ie 5, ia 1] :: os) (Ro.sl (Kd.int .i32) d2 d3 c9 :: Ro.sl (Kd.slice kS32) a7 a8 a4 :: Ro.sl (Kd.int .i32) b4 b5 a0.f3 :: Ro.sl (Kd.int .i32) d0 d1 c8 :: Ro.sl (Kd.int .i32) g5 g7 b3.f3 :: Ro.sl (Kd.int .i32) g6 g8 a3.f3 :: Ro.sl (Kd.int .u8) A7 C8 l6 :: rs) := hS.re [] [] rfl (sub_cons 3 rfl (sub_cons 2 rfl (sub_cons 0 rfl (sub_cons 1 rfl (sub_tail (sub_tail (sub_tail (sub_tail (sub_self)))))))))
    obtain ⟨c5, a2, t1, H⟩ := b2_out H
    have hq := confidantref9_Step.calls t1 hS
    refine EL.of (EO.callD 29 [ag [ib e5, ia e6, ia e7, sv d2 d3 c9, ib e8, ib e9, ib f9, ib g0, ia g1, ia g2, ie g3, ia g4], sv a7 a8 a4] _ 44 (by kernel_rfl) (by kernel_rfl) (by kernel_rfl) hq ?_)
    rintro v w ⟨b7, b8, rfl, hS⟩
    refine EL.quick 3 [2, 7, 9, 10, 11, 12, 13, 45, 46] [(2, ig a10), (7, sv a7 a8 a4), (9, pt a6 0), (10, pt a5 0), (11, ia b6), (12, pt a1 0), (13, pt b0 0), (45, ag (cellsS58 a2 (b7, b8))), (46, ag (encS63 c5))] (by kernel_rfl) ?_
    refine EL.of (EO.alloc hS 58 (ag (cellsS58 zS58 (none, 0))) (cellsS58 zS58 (none, 0)) 14 (by kernel_rfl) (by kernel_rfl) (by kernel_rfl) (by kernel_rfl) (by first | rfl | kernel_rfl) ?_)
    intro b9 w hS
    refine EL.of (EO.alloc hS 63 (ag (encS63 zS63)) (encS63 zS63) 15 (by kernel_rfl) (by kernel_rfl) (by kernel_rfl) (by kernel_rfl) (by first | rfl | kernel_rfl) ?_)
    intro i7 w hS
    refine EL.of (EO.storeBox (os' := Ass.box 63 i7 (encS63 zS63) :: Ass.box 58 b9 (cellsS58 a2 (b7, b8)) :: Ass.box 63 b0 (encS63 c0) :: Ass.box 58 a1 (cellsS58 a0 (b4, b5)) :: Ass.box 58 a5 [ib e5, ia e6, ia e7, sv d2 d3 c9, ib e8, ib e9, ib f9, ib g0, ia g1, ia g2, ie g3, ia g4] :: Ass.box 58 a6 [ib d4, ia d5, ia d6, sv d0 d1 c8, ib d7, ib d8, ib d9, ib e0, ia e1, ia e2, ie e3, ia e4] :: Ass.box 71 c4 [ia 0, ib a9, ia 2, ia 3, ie 5, ia 1] :: os) hS 1 rfl 58 0 (ag (cellsS58 a2 (b7, b8))) (cellsS58 a2 (b7, b8)) (by kernel_rfl) (by kernel_rfl) (by kernel_rfl) (by kernel_rfl) (by kernel_rfl) (by kernel_rfl) rfl rfl ?_)
    intro w hS
    refine EL.of (EO.storeBox (os' := Ass.box 63 i7 (encS63 c5) :: Ass.box 58 b9 (cellsS58 a2 (b7, b8)) :: Ass.box 63 b0 (encS63 c0) :: Ass.box 58 a1 (cellsS58 a0 (b4, b5)) :: Ass.box 58 a5 [ib e5, ia e6, ia e7, sv d2 d3 c9, ib e8, ib e9, ib f9, ib g0, ia g1, ia g2, ie g3, ia g4] :: Ass.box 58 a6 [ib d4, ia d5, ia d6, sv d0 d1 c8, ib d7, ib d8, ib d9, ib e0, ia e1, ia e2, ie e3, ia e4] :: Ass.box 71 c4 [ia 0, ib a9, ia 2, ia 3, ie 5, ia 1] :: os) hS 0 rfl 63 0 (ag (encS63 c5)) (encS63 c5) (by kernel_rfl) (by kernel_rfl) (by kernel_rfl) (by kernel_rfl) (by kernel_rfl) (by kernel_rfl) rfl rfl ?_)
    intro w hS
    refine EL.done (by kernel_rfl) ?_
    refine EQ.code ?_
    refine EW.sq (by kernel_rfl) ?_
    obtain ⟨i8, t4, H⟩ := lt_out H
    refine EW.ct (fun a w => ∃ j4 : Bool, Sat 95 [(2, ig a10), (7, sv a7 a8 a4), (9, pt a6 0), (10, pt a5 0), (11, ia b6), (12, pt a1 0), (13, pt b0 0), (14, pt b9 0), (81, .bool (j4))] a ∧ St B w (Ass.box 63 i7 (encS63 c5) :: Ass.box 58 b9 (cellsS58 a2 (b7, b8)) :: Ass.box 63 b0 (encS63 c0) :: Ass.box 58 a1 (cellsS58 a0 (b4, b5)) :: Ass.box 58 a5 [ib e5, ia e6, ia e7, sv d2 d3 c9, ib e8, ib e9, ib f9, ib g0, ia g1, ia g2, ie g3, ia g4] :: Ass.box 58 a6 [ib d4, ia d5, ia d6, sv d0 d1 c8, ib d7, ib d8, ib d9, ib e0, ia e1, ia e2, ie e3, ia e4] :: Ass.box 71 c4 [ia 0, ib a9, ia 2, ia 3, ie 5, ia 1] :: os) (Ro.sl (Kd.int .i32) b4 b5 a0.f3 :: Ro.sl (Kd.int .i32) b7 b8 a2.f3 :: Ro.sl (Kd.int .i32) d2 d3 c9 :: Ro.sl (Kd.slice kS32) a7 a8 a4 :: Ro.sl (Kd.int .i32) d0 d1 c8 :: Ro.sl (Kd.int .i32) g5 g7 b3.f3 :: Ro.sl (Kd.int .i32) g6 g8 a3.f3 :: Ro.sl (Kd.int .u8) A7 C8 l6 :: rs) ∧ i8 j4 = some q2) (by kernel_rfl) ?_ (fun a w hI => ?_)
    ·refine EW.rg (by kernel_rfl) ?_
     refine EL.of (EO.Y (YO.loadBox hS 2 rfl 63 0 3 (ag (encS63 c0)) 47 (by kernel_rfl) (by kernel_rfl) (by kernel_rfl) (by kernel_rfl)) ?_)
     refine EL.of (EO.Y (YO.loadBox hS 0 rfl 63 0 3 (ag (encS63 c5)) 48 (by kernel_rfl) (by kernel_rfl) (by kernel_rfl) (by kernel_rfl)) ?_)
     refine EL.of (EO.Y (YO.eqAg .neq 63 (.tmp 47) (.tmp 48) #[ia c0.f0, ib c0.f1, ia c0.f2] #[ia c5.f0, ib c5.f1, ia c5.f2] ((c0.f0 == c5.f0) && ((c0.f1 == c5.f1) && ((c0.f2 == c5.f2) && true))) (!(((c0.f0 == c5.f0) && ((c0.f1 == c5.f1) && ((c0.f2 == c5.f2) && true))))) 49 (by kernel_rfl) (by kernel_rfl) (by kernel_rfl) (by kernel_rfl) (by kernel_rfl) (.inr ⟨rfl, rfl⟩)) ?_)
     refine EL.quick 1 [2, 7, 9, 10, 11, 12, 13, 14, 50] [(2, ig a10), (7, sv a7 a8 a4), (9, pt a6 0), (10, pt a5 0), (11, ia b6), (12, pt a1 0), (13, pt b0 0), (14, pt b9 0), (50, .bool (!(((c0.f0 == c5.f0) && ((c0.f1 == c5.f1) && ((c0.f2 == c5.f2) && true))))))] (by kernel_rfl) ?_
     by_cases p5 : ((c0.f0 == c5.f0) && ((c0.f1 == c5.f1) && ((c0.f2 == c5.f2) && true))) = true
     ·rw [if_pos p5] at H
      refine EL.keep [2, 7, 9, 10, 11, 12, 13, 14, 50] [(2, ig a10), (7, sv a7 a8 a4), (9, pt a6 0), (10, pt a5 0), (11, ia b6), (12, pt a1 0), (13, pt b0 0), (14, pt b9 0), (50, .bool (!(((c0.f0 == c5.f0) && ((c0.f1 == c5.f1) && ((c0.f2 == c5.f2) && true))))))] (by kernel_rfl) ?_
      refine EL.as' [(2, ig a10), (7, sv a7 a8 a4), (9, pt a6 0), (10, pt a5 0), (11, ia b6), (12, pt a1 0), (13, pt b0 0), (14, pt b9 0), (50, .bool (false))] (by simp only [cellsS58, encS63, encS71, p5, Bool.not_true, Bool.not_false]) ?_
      refine EL.of (EO.Y (YO.loadBox hS 3 rfl 58 0 12 (ag (cellsS58 a0 (b4, b5))) 51 (by kernel_rfl) (by kernel_rfl) (by kernel_rfl) (by kernel_rfl)) ?_)
      refine EL.of (EO.Y (YO.loadBox hS 1 rfl 58 0 12 (ag (cellsS58 a2 (b7, b8))) 52 (by kernel_rfl) (by kernel_rfl) (by kernel_rfl) (by kernel_rfl)) ?_)
      have hS : St B _ (Ass.box 63 i7 (encS63 c5) :: Ass.box 58 b9 (cellsS58 a2 (b7, b8)) :: Ass.box 63 b0 (encS63 c0) :: Ass.box 58 a1 (cellsS58 a0 (b4, b5)) :: Ass.box 58 a5 [ib e5, ia e6, ia e7, sv d2 d3 c9, ib e8, ib e9, ib f9, ib g0, ia g1, ia g2, ie g3, ia g4] :: Ass.box 58 a6 [ib d4, ia d5, ia d6, sv d0 d1 c8, ib d7, ib d8, ib d9, ib e0, ia e1, ia e2, ie e3, ia e4] :: Ass.box 71 c4 [ia 0, ib a9, ia 2, ia 3, ie 5, ia 1] :: os) (Ro.sl (Kd.int .i32) b4 b5 a0.f3 :: Ro.sl (Kd.int .i32) b7 b8 a2.f3 :: Ro.sl (Kd.int .i32) d2 d3 c9 :: Ro.sl (Kd.slice kS32) a7 a8 a4 :: Ro.sl (Kd.int .i32) d0 d1 c8 :: Ro.sl (Kd.int .i32) g5 g7 b3.f3 :: Ro.sl (Kd.int .i32) g6 g8 a3.f3 :: Ro.sl (Kd.int .u8) A7 C8 l6 :: rs) := hS.re [] [] rfl (sub_cons 3 rfl (sub_cons 0 rfl (sub_cons 1 rfl (sub_cons 2 rfl (sub_tail (sub_tail (sub_tail (sub_tail (sub_self)))))))))
      obtain ⟨i1, t2, H⟩ := b1_out H
      have hq := confidantref9_Same.calls t2 hS
      refine EL.of (EO.callD 30 [ag (cellsS58 a0 (b4, b5)), ag (cellsS58 a2 (b7, b8))] _ 53 (by kernel_rfl) (by kernel_rfl) (by kernel_rfl) hq ?_)
      rintro v w ⟨rfl, hS⟩
      refine EL.quick 3 [2, 7, 9, 10, 11, 12, 13, 14, 51, 52, 53, 54, 56] [(2, ig a10), (7, sv a7 a8 a4), (9, pt a6 0), (10, pt a5 0), (11, ia b6), (12, pt a1 0), (13, pt b0 0), (14, pt b9 0), (51, ag (cellsS58 a0 (b4, b5))), (52, ag (cellsS58 a2 (b7, b8))), (53, .bool (i1)), (54, .bool (!(i1))), (56, .bool (!(i1)))] (by kernel_rfl) ?_
      by_cases p6 : i1 = true
      ·rw [if_pos p6] at H
       refine EL.keep [2, 7, 9, 10, 11, 12, 13, 14, 51, 52, 53, 54, 56] [(2, ig a10), (7, sv a7 a8 a4), (9, pt a6 0), (10, pt a5 0), (11, ia b6), (12, pt a1 0), (13, pt b0 0), (14, pt b9 0), (51, ag (cellsS58 a0 (b4, b5))), (52, ag (cellsS58 a2 (b7, b8))), (53, .bool (i1)), (54, .bool (!(i1))), (56, .bool (!(i1)))] (by kernel_rfl) ?_
       refine EL.as' [(2, ig a10), (7, sv a7 a8 a4), (9, pt a6 0), (10, pt a5 0), (11, ia b6), (12, pt a1 0), (13, pt b0 0), (14, pt b9 0), (51, ag (cellsS58 a0 (b4, b5))), (52, ag (cellsS58 a2 (b7, b8))), (53, .bool (true)), (54, .bool (false)), (56, .bool (false))] (by simp only [cellsS58, encS63, encS71, p6, Bool.not_true, Bool.not_false]) ?_
       refine EL.quick 1 [2, 7, 9, 10, 11, 12, 13, 14, 51, 52, 53, 54, 56, 57] [(2, ig a10), (7, sv a7 a8 a4), (9, pt a6 0), (10, pt a5 0), (11, ia b6), (12, pt a1 0), (13, pt b0 0), (14, pt b9 0), (51, ag (cellsS58 a0 (b4, b5))), (52, ag (cellsS58 a2 (b7, b8))), (53, .bool (true)), (54, .bool (false)), (56, .bool (false)), (57, pt a1 0)] (by kernel_rfl) ?_
       refine EL.of (EO.Y (YO.loadBox hS 3 rfl 21 0 1 (ib a0.f0) 58 (by kernel_rfl) (by kernel_rfl) (by kernel_rfl) (by kernel_rfl)) ?_)
       refine EL.quick 3 [2, 7, 9, 10, 11, 12, 13, 14, 51, 52, 53, 54, 57, 58, 59, 61] [(2, ig a10), (7, sv a7 a8 a4), (9, pt a6 0), (10, pt a5 0), (11, ia b6), (12, pt a1 0), (13, pt b0 0), (14, pt b9 0), (51, ag (cellsS58 a0 (b4, b5))), (52, ag (cellsS58 a2 (b7, b8))), (53, .bool (true)), (54, .bool (false)), (57, pt a1 0), (58, ib a0.f0), (59, .bool (!(decide (a0.f0 = 4)))), (61, .bool (!(decide (a0.f0 = 4))))] (by kernel_rfl) ?_
       by_cases p7 : a0.f0 = 4
       ·rw [if_pos p7] at H
        refine EL.keep [2, 7, 9, 10, 11, 12, 13, 14, 51, 52, 53, 54, 57, 58, 59, 61] [(2, ig a10), (7, sv a7 a8 a4), (9, pt a6 0), (10, pt a5 0), (11, ia b6), (12, pt a1 0), (13, pt b0 0), (14, pt b9 0), (51, ag (cellsS58 a0 (b4, b5))), (52, ag (cellsS58 a2 (b7, b8))), (53, .bool (true)), (54, .bool (false)), (57, pt a1 0), (58, ib a0.f0), (59, .bool (!(decide (a0.f0 = 4)))), (61, .bool (!(decide (a0.f0 = 4))))] (by kernel_rfl) ?_
        refine EL.as' [(2, ig a10), (7, sv a7 a8 a4), (9, pt a6 0), (10, pt a5 0), (11, ia b6), (12, pt a1 0), (13, pt b0 0), (14, pt b9 0), (51, ag (cellsS58 a0 (b4, b5))), (52, ag (cellsS58 a2 (b7, b8))), (53, .bool (true)), (54, .bool (false)), (57, pt a1 0), (58, ib a0.f0), (59, .bool (false)), (61, .bool (false))] (by simp only [cellsS58, encS63, encS71, dec_t p7, Bool.not_true, Bool.not_false]) ?_
        refine EL.quick 1 [2, 7, 9, 10, 11, 12, 13, 14, 51, 52, 53, 54, 57, 58, 59, 61, 62] [(2, ig a10), (7, sv a7 a8 a4), (9, pt a6 0), (10, pt a5 0), (11, ia b6), (12, pt a1 0), (13, pt b0 0), (14, pt b9 0), (51, ag (cellsS58 a0 (b4, b5))), (52, ag (cellsS58 a2 (b7, b8))), (53, .bool (true)), (54, .bool (false)), (57, pt a1 0), (58, ib a0.f0), (59, .bool (false)), (61, .bool (false)), (62, pt a1 8)] (by kernel_rfl) ?_
        refine EL.of (EO.Y (YO.loadBox hS 3 rfl 3 8 1 (ia a0.f5) 63 (by kernel_rfl) (by kernel_rfl) (by kernel_rfl) (by kernel_rfl)) ?_)
        refine EL.quick 3 [2, 7, 9, 10, 11, 12, 13, 14, 51, 52, 53, 54, 57, 58, 59, 62, 63, 64, 66] [(2, ig a10), (7, sv a7 a8 a4), (9, pt a6 0), (10, pt a5 0), (11, ia b6), (12, pt a1 0), (13, pt b0 0), (14, pt b9 0), (51, ag (cellsS58 a0 (b4, b5))), (52, ag (cellsS58 a2 (b7, b8))), (53, .bool (true)), (54, .bool (false)), (57, pt a1 0), (58, ib a0.f0), (59, .bool (false)), (62, pt a1 8), (63, ia a0.f5), (64, .bool (!(decide (a0.f5 = 2)))), (66, .bool (!(decide (a0.f5 = 2))))] (by kernel_rfl) ?_
        by_cases p8 : a0.f5 = 2
        ·rw [if_pos p8] at H
         refine EL.keep [2, 7, 9, 10, 11, 12, 13, 14, 51, 52, 53, 54, 57, 58, 59, 62, 63, 64, 66] [(2, ig a10), (7, sv a7 a8 a4), (9, pt a6 0), (10, pt a5 0), (11, ia b6), (12, pt a1 0), (13, pt b0 0), (14, pt b9 0), (51, ag (cellsS58 a0 (b4, b5))), (52, ag (cellsS58 a2 (b7, b8))), (53, .bool (true)), (54, .bool (false)), (57, pt a1 0), (58, ib a0.f0), (59, .bool (false)), (62, pt a1 8), (63, ia a0.f5), (64, .bool (!(decide (a0.f5 = 2)))), (66, .bool (!(decide (a0.f5 = 2))))] (by kernel_rfl) ?_
         refine EL.as' [(2, ig a10), (7, sv a7 a8 a4), (9, pt a6 0), (10, pt a5 0), (11, ia b6), (12, pt a1 0), (13, pt b0 0), (14, pt b9 0), (51, ag (cellsS58 a0 (b4, b5))), (52, ag (cellsS58 a2 (b7, b8))), (53, .bool (true)), (54, .bool (false)), (57, pt a1 0), (58, ib a0.f0), (59, .bool (false)), (62, pt a1 8), (63, ia a0.f5), (64, .bool (false)), (66, .bool (false))] (by simp only [cellsS58, encS63, encS71, dec_t p8, Bool.not_true, Bool.not_false]) ?_
         refine EL.quick 1 [2, 7, 9, 10, 11, 12, 13, 14, 51, 52, 53, 54, 57, 58, 59, 62, 63, 64, 66, 67] [(2, ig a10), (7, sv a7 a8 a4), (9, pt a6 0), (10, pt a5 0), (11, ia b6), (12, pt a1 0), (13, pt b0 0), (14, pt b9 0), (51, ag (cellsS58 a0 (b4, b5))), (52, ag (cellsS58 a2 (b7, b8))), (53, .bool (true)), (54, .bool (false)), (57, pt a1 0), (58, ib a0.f0), (59, .bool (false)), (62, pt a1 8), (63, ia a0.f5), (64, .bool (false)), (66, .bool (false)), (67, pt a1 9)] (by kernel_rfl) ?_
         refine EL.of (EO.Y (YO.loadBox hS 3 rfl 3 9 1 (ia a0.f6) 68 (by kernel_rfl) (by kernel_rfl) (by kernel_rfl) (by kernel_rfl)) ?_)
         refine EL.quick 3 [2, 7, 9, 10, 11, 12, 13, 14, 51, 52, 53, 54, 57, 58, 59, 62, 63, 64, 67, 68, 69, 71] [(2, ig a10), (7, sv a7 a8 a4), (9, pt a6 0), (10, pt a5 0), (11, ia b6), (12, pt a1 0), (13, pt b0 0), (14, pt b9 0), (51, ag (cellsS58 a0 (b4, b5))), (52, ag (cellsS58 a2 (b7, b8))), (53, .bool (true)), (54, .bool (false)), (57, pt a1 0), (58, ib a0.f0), (59, .bool (false)), (62, pt a1 8), (63, ia a0.f5), (64, .bool (false)), (67, pt a1 9), (68, ia a0.f6), (69, .bool (!(decide (a0.f6 = 3)))), (71, .bool (!(decide (a0.f6 = 3))))] (by kernel_rfl) ?_
         by_cases p9 : a0.f6 = 3
         ·rw [if_pos p9] at H
          refine EL.keep [2, 7, 9, 10, 11, 12, 13, 14, 51, 52, 53, 54, 57, 58, 59, 62, 63, 64, 67, 68, 69, 71] [(2, ig a10), (7, sv a7 a8 a4), (9, pt a6 0), (10, pt a5 0), (11, ia b6), (12, pt a1 0), (13, pt b0 0), (14, pt b9 0), (51, ag (cellsS58 a0 (b4, b5))), (52, ag (cellsS58 a2 (b7, b8))), (53, .bool (true)), (54, .bool (false)), (57, pt a1 0), (58, ib a0.f0), (59, .bool (false)), (62, pt a1 8), (63, ia a0.f5), (64, .bool (false)), (67, pt a1 9), (68, ia a0.f6), (69, .bool (!(decide (a0.f6 = 3)))), (71, .bool (!(decide (a0.f6 = 3))))] (by kernel_rfl) ?_
          refine EL.as' [(2, ig a10), (7, sv a7 a8 a4), (9, pt a6 0), (10, pt a5 0), (11, ia b6), (12, pt a1 0), (13, pt b0 0), (14, pt b9 0), (51, ag (cellsS58 a0 (b4, b5))), (52, ag (cellsS58 a2 (b7, b8))), (53, .bool (true)), (54, .bool (false)), (57, pt a1 0), (58, ib a0.f0), (59, .bool (false)), (62, pt a1 8), (63, ia a0.f5), (64, .bool (false)), (67, pt a1 9), (68, ia a0.f6), (69, .bool (false)), (71, .bool (false))] (by simp only [cellsS58, encS63, encS71, dec_t p9, Bool.not_true, Bool.not_false]) ?_
          refine EL.quick 1 [2, 7, 9, 10, 11, 12, 13, 14, 51, 52, 53, 54, 57, 58, 59, 62, 63, 64, 67, 68, 69, 71, 72] [(2, ig a10), (7, sv a7 a8 a4), (9, pt a6 0), (10, pt a5 0), (11, ia b6), (12, pt a1 0), (13, pt b0 0), (14, pt b9 0), (51, ag (cellsS58 a0 (b4, b5))), (52, ag (cellsS58 a2 (b7, b8))), (53, .bool (true)), (54, .bool (false)), (57, pt a1 0), (58, ib a0.f0), (59, .bool (false)), (62, pt a1 8), (63, ia a0.f5), (64, .bool (false)), (67, pt a1 9), (68, ia a0.f6), (69, .bool (false)), (71, .bool (false)), (72, pt a1 10)] (by kernel_rfl) ?_
          refine EL.of (EO.Y (YO.loadBox hS 3 rfl 56 10 1 (ie a0.f7) 73 (by kernel_rfl) (by kernel_rfl) (by kernel_rfl) (by kernel_rfl)) ?_)
          refine EL.quick 3 [2, 7, 9, 10, 11, 12, 13, 14, 51, 52, 53, 54, 57, 58, 59, 62, 63, 64, 67, 68, 69, 72, 73, 74, 76] [(2, ig a10), (7, sv a7 a8 a4), (9, pt a6 0), (10, pt a5 0), (11, ia b6), (12, pt a1 0), (13, pt b0 0), (14, pt b9 0), (51, ag (cellsS58 a0 (b4, b5))), (52, ag (cellsS58 a2 (b7, b8))), (53, .bool (true)), (54, .bool (false)), (57, pt a1 0), (58, ib a0.f0), (59, .bool (false)), (62, pt a1 8), (63, ia a0.f5), (64, .bool (false)), (67, pt a1 9), (68, ia a0.f6), (69, .bool (false)), (72, pt a1 10), (73, ie a0.f7), (74, .bool (!(decide (a0.f7 = 5)))), (76, .bool (!(decide (a0.f7 = 5))))] (by kernel_rfl) ?_
          by_cases q0 : a0.f7 = 5
          ·rw [if_pos q0] at H
           refine EL.keep [2, 7, 9, 10, 11, 12, 13, 14, 51, 52, 53, 54, 57, 58, 59, 62, 63, 64, 67, 68, 69, 72, 73, 74, 76] [(2, ig a10), (7, sv a7 a8 a4), (9, pt a6 0), (10, pt a5 0), (11, ia b6), (12, pt a1 0), (13, pt b0 0), (14, pt b9 0), (51, ag (cellsS58 a0 (b4, b5))), (52, ag (cellsS58 a2 (b7, b8))), (53, .bool (true)), (54, .bool (false)), (57, pt a1 0), (58, ib a0.f0), (59, .bool (false)), (62, pt a1 8), (63, ia a0.f5), (64, .bool (false)), (67, pt a1 9), (68, ia a0.f6), (69, .bool (false)), (72, pt a1 10), (73, ie a0.f7), (74, .bool (!(decide (a0.f7 = 5)))), (76, .bool (!(decide (a0.f7 = 5))))] (by kernel_rfl) ?_
           refine EL.as' [(2, ig a10), (7, sv a7 a8 a4), (9, pt a6 0), (10, pt a5 0), (11, ia b6), (12, pt a1 0), (13, pt b0 0), (14, pt b9 0), (51, ag (cellsS58 a0 (b4, b5))), (52, ag (cellsS58 a2 (b7, b8))), (53, .bool (true)), (54, .bool (false)), (57, pt a1 0), (58, ib a0.f0), (59, .bool (false)), (62, pt a1 8), (63, ia a0.f5), (64, .bool (false)), (67, pt a1 9), (68, ia a0.f6), (69, .bool (false)), (72, pt a1 10), (73, ie a0.f7), (74, .bool (false)), (76, .bool (false))] (by simp only [cellsS58, encS63, encS71, dec_t q0, Bool.not_true, Bool.not_false]) ?_
           refine EL.quick 1 [2, 7, 9, 10, 11, 12, 13, 14, 51, 52, 53, 54, 57, 58, 59, 62, 63, 64, 67, 68, 69, 72, 73, 74, 76, 77] [(2, ig a10), (7, sv a7 a8 a4), (9, pt a6 0), (10, pt a5 0), (11, ia b6), (12, pt a1 0), (13, pt b0 0), (14, pt b9 0), (51, ag (cellsS58 a0 (b4, b5))), (52, ag (cellsS58 a2 (b7, b8))), (53, .bool (true)), (54, .bool (false)), (57, pt a1 0), (58, ib a0.f0), (59, .bool (false)), (62, pt a1 8), (63, ia a0.f5), (64, .bool (false)), (67, pt a1 9), (68, ia a0.f6), (69, .bool (false)), (72, pt a1 10), (73, ie a0.f7), (74, .bool (false)), (76, .bool (false)), (77, pt a1 3)] (by kernel_rfl) ?_
           refine EL.of (EO.Y (YO.loadBox hS 3 rfl 54 3 1 (sv b4 b5 a0.f3) 78 (by kernel_rfl) (by kernel_rfl) (by kernel_rfl) (by kernel_rfl)) ?_)
           refine EL.quick 3 [2, 7, 9, 10, 11, 12, 13, 14, 51, 52, 53, 54, 57, 58, 59, 62, 63, 64, 67, 68, 69, 72, 73, 74, 77, 78, 79, 80, 81] [(2, ig a10), (7, sv a7 a8 a4), (9, pt a6 0), (10, pt a5 0), (11, ia b6), (12, pt a1 0), (13, pt b0 0), (14, pt b9 0), (51, ag (cellsS58 a0 (b4, b5))), (52, ag (cellsS58 a2 (b7, b8))), (53, .bool (true)), (54, .bool (false)), (57, pt a1 0), (58, ib a0.f0), (59, .bool (false)), (62, pt a1 8), (63, ia a0.f5), (64, .bool (false)), (67, pt a1 9), (68, ia a0.f6), (69, .bool (false)), (72, pt a1 10), (73, ie a0.f7), (74, .bool (false)), (77, pt a1 3), (78, sv b4 b5 a0.f3), (79, ia (a0.f3.length : Int)), (80, .bool (decide ((a0.f3.length : Int) > 32))), (81, .bool (decide ((a0.f3.length : Int) > 32)))] (by kernel_rfl) ?_
           refine EL.done (by kernel_rfl) ?_
           refine EQ.to ?_
           refine EQ.keep [2, 7, 9, 10, 11, 12, 13, 14, 81] [(2, ig a10), (7, sv a7 a8 a4), (9, pt a6 0), (10, pt a5 0), (11, ia b6), (12, pt a1 0), (13, pt b0 0), (14, pt b9 0), (81, .bool (decide ((a0.f3.length : Int) > 32)))] (by kernel_rfl) ?_
           exact fun a ha => ⟨decide ((a0.f3.length : Int) > 32), ha, (hS.re [6, 6, 6, 6, 6, 6, 6] [] rfl (sub_cons 0 rfl (sub_cons 1 rfl (sub_cons 2 rfl (sub_cons 3 rfl (sub_cons 4 rfl (sub_cons 5 rfl (sub_cons 6 rfl (sub_cons 7 rfl (sub_tail (sub_tail (sub_tail (sub_tail (sub_tail (sub_tail (sub_tail (sub_tail (sub_self)))))))))))))))))), H⟩
          rw [if_neg q0] at H
          refine EL.keep [2, 7, 9, 10, 11, 12, 13, 14, 51, 52, 53, 54, 57, 58, 59, 62, 63, 64, 67, 68, 69, 72, 73, 74, 76] [(2, ig a10), (7, sv a7 a8 a4), (9, pt a6 0), (10, pt a5 0), (11, ia b6), (12, pt a1 0), (13, pt b0 0), (14, pt b9 0), (51, ag (cellsS58 a0 (b4, b5))), (52, ag (cellsS58 a2 (b7, b8))), (53, .bool (true)), (54, .bool (false)), (57, pt a1 0), (58, ib a0.f0), (59, .bool (false)), (62, pt a1 8), (63, ia a0.f5), (64, .bool (false)), (67, pt a1 9), (68, ia a0.f6), (69, .bool (false)), (72, pt a1 10), (73, ie a0.f7), (74, .bool (!(decide (a0.f7 = 5)))), (76, .bool (!(decide (a0.f7 = 5))))] (by kernel_rfl) ?_
          refine EL.as' [(2, ig a10), (7, sv a7 a8 a4), (9, pt a6 0), (10, pt a5 0), (11, ia b6), (12, pt a1 0), (13, pt b0 0), (14, pt b9 0), (51, ag (cellsS58 a0 (b4, b5))), (52, ag (cellsS58 a2 (b7, b8))), (53, .bool (true)), (54, .bool (false)), (57, pt a1 0), (58, ib a0.f0), (59, .bool (false)), (62, pt a1 8), (63, ia a0.f5), (64, .bool (false)), (67, pt a1 9), (68, ia a0.f6), (69, .bool (false)), (72, pt a1 10), (73, ie a0.f7), (74, .bool (true)), (76, .bool (true))] (by simp only [cellsS58, encS63, encS71, dec_f q0, Bool.not_true, Bool.not_false]) ?_
          refine EL.quick 5 [2, 7, 9, 10, 11, 12, 13, 14, 51, 52, 53, 54, 57, 58, 59, 62, 63, 64, 67, 68, 69, 72, 73, 74, 81] [(2, ig a10), (7, sv a7 a8 a4), (9, pt a6 0), (10, pt a5 0), (11, ia b6), (12, pt a1 0), (13, pt b0 0), (14, pt b9 0), (51, ag (cellsS58 a0 (b4, b5))), (52, ag (cellsS58 a2 (b7, b8))), (53, .bool (true)), (54, .bool (false)), (57, pt a1 0), (58, ib a0.f0), (59, .bool (false)), (62, pt a1 8), (63, ia a0.f5), (64, .bool (false)), (67, pt a1 9), (68, ia a0.f6), (69, .bool (false)), (72, pt a1 10), (73, ie a0.f7), (74, .bool (true)), (81, .bool (true))] (by kernel_rfl) ?_
          refine EL.done (by kernel_rfl) ?_
          refine EQ.to ?_
          refine EQ.keep [2, 7, 9, 10, 11, 12, 13, 14, 81] [(2, ig a10), (7, sv a7 a8 a4), (9, pt a6 0), (10, pt a5 0), (11, ia b6), (12, pt a1 0), (13, pt b0 0), (14, pt b9 0), (81, .bool (true))] (by kernel_rfl) ?_
          exact fun a ha => ⟨true, ha, (hS.re [6, 6, 6, 6, 6, 6, 6] [] rfl (sub_cons 0 rfl (sub_cons 1 rfl (sub_cons 2 rfl (sub_cons 3 rfl (sub_cons 4 rfl (sub_cons 5 rfl (sub_cons 6 rfl (sub_cons 7 rfl (sub_tail (sub_tail (sub_tail (sub_tail (sub_tail (sub_tail (sub_tail (sub_tail (sub_self)))))))))))))))))), H⟩
         rw [if_neg p9] at H
         refine EL.keep [2, 7, 9, 10, 11, 12, 13, 14, 51, 52, 53, 54, 57, 58, 59, 62, 63, 64, 67, 68, 69, 71] [(2, ig a10), (7, sv a7 a8 a4), (9, pt a6 0), (10, pt a5 0), (11, ia b6), (12, pt a1 0), (13, pt b0 0), (14, pt b9 0), (51, ag (cellsS58 a0 (b4, b5))), (52, ag (cellsS58 a2 (b7, b8))), (53, .bool (true)), (54, .bool (false)), (57, pt a1 0), (58, ib a0.f0), (59, .bool (false)), (62, pt a1 8), (63, ia a0.f5), (64, .bool (false)), (67, pt a1 9), (68, ia a0.f6), (69, .bool (!(decide (a0.f6 = 3)))), (71, .bool (!(decide (a0.f6 = 3))))] (by kernel_rfl) ?_
         refine EL.as' [(2, ig a10), (7, sv a7 a8 a4), (9, pt a6 0), (10, pt a5 0), (11, ia b6), (12, pt a1 0), (13, pt b0 0), (14, pt b9 0), (51, ag (cellsS58 a0 (b4, b5))), (52, ag (cellsS58 a2 (b7, b8))), (53, .bool (true)), (54, .bool (false)), (57, pt a1 0), (58, ib a0.f0), (59, .bool (false)), (62, pt a1 8), (63, ia a0.f5), (64, .bool (false)), (67, pt a1 9), (68, ia a0.f6), (69, .bool (true)), (71, .bool (true))] (by simp only [cellsS58, encS63, encS71, dec_f p9, Bool.not_true, Bool.not_false]) ?_
         refine EL.quick 10 [2, 7, 9, 10, 11, 12, 13, 14, 51, 52, 53, 54, 57, 58, 59, 62, 63, 64, 67, 68, 69, 81] [(2, ig a10), (7, sv a7 a8 a4), (9, pt a6 0), (10, pt a5 0), (11, ia b6), (12, pt a1 0), (13, pt b0 0), (14, pt b9 0), (51, ag (cellsS58 a0 (b4, b5))), (52, ag (cellsS58 a2 (b7, b8))), (53, .bool (true)), (54, .bool (false)), (57, pt a1 0), (58, ib a0.f0), (59, .bool (false)), (62, pt a1 8), (63, ia a0.f5), (64, .bool (false)), (67, pt a1 9), (68, ia a0.f6), (69, .bool (true)), (81, .bool (true))] (by kernel_rfl) ?_
         refine EL.done (by kernel_rfl) ?_
         refine EQ.to ?_
         refine EQ.keep [2, 7, 9, 10, 11, 12, 13, 14, 81] [(2, ig a10), (7, sv a7 a8 a4), (9, pt a6 0), (10, pt a5 0), (11, ia b6), (12, pt a1 0), (13, pt b0 0), (14, pt b9 0), (81, .bool (true))] (by kernel_rfl) ?_
         exact fun a ha => ⟨true, ha, (hS.re [6, 6, 6, 6, 6, 6, 6] [] rfl (sub_cons 0 rfl (sub_cons 1 rfl (sub_cons 2 rfl (sub_cons 3 rfl (sub_cons 4 rfl (sub_cons 5 rfl (sub_cons 6 rfl (sub_cons 7 rfl (sub_tail (sub_tail (sub_tail (sub_tail (sub_tail (sub_tail (sub_tail (sub_tail (sub_self)))))))))))))))))), H⟩
        rw [if_neg p8] at H
        refine EL.keep [2, 7, 9, 10, 11, 12, 13, 14, 51, 52, 53, 54, 57, 58, 59, 62, 63, 64, 66] [(2, ig a10), (7, sv a7 a8 a4), (9, pt a6 0), (10, pt a5 0), (11, ia b6), (12, pt a1 0), (13, pt b0 0), (14, pt b9 0), (51, ag (cellsS58 a0 (b4, b5))), (52, ag (cellsS58 a2 (b7, b8))), (53, .bool (true)), (54, .bool (false)), (57, pt a1 0), (58, ib a0.f0), (59, .bool (false)), (62, pt a1 8), (63, ia a0.f5), (64, .bool (!(decide (a0.f5 = 2)))), (66, .bool (!(decide (a0.f5 = 2))))] (by kernel_rfl) ?_
        refine EL.as' [(2, ig a10), (7, sv a7 a8 a4), (9, pt a6 0), (10, pt a5 0), (11, ia b6), (12, pt a1 0), (13, pt b0 0), (14, pt b9 0), (51, ag (cellsS58 a0 (b4, b5))), (52, ag (cellsS58 a2 (b7, b8))), (53, .bool (true)), (54, .bool (false)), (57, pt a1 0), (58, ib a0.f0), (59, .bool (false)), (62, pt a1 8), (63, ia a0.f5), (64, .bool (true)), (66, .bool (true))] (by simp only [cellsS58, encS63, encS71, dec_f p8, Bool.not_true, Bool.not_false]) ?_
        refine EL.quick 15 [2, 7, 9, 10, 11, 12, 13, 14, 51, 52, 53, 54, 57, 58, 59, 62, 63, 64, 81] [(2, ig a10), (7, sv a7 a8 a4), (9, pt a6 0), (10, pt a5 0), (11, ia b6), (12, pt a1 0), (13, pt b0 0), (14, pt b9 0), (51, ag (cellsS58 a0 (b4, b5))), (52, ag (cellsS58 a2 (b7, b8))), (53, .bool (true)), (54, .bool (false)), (57, pt a1 0), (58, ib a0.f0), (59, .bool (false)), (62, pt a1 8), (63, ia a0.f5), (64, .bool (true)), (81, .bool (true))] (by kernel_rfl) ?_
        refine EL.done (by kernel_rfl) ?_
        refine EQ.to ?_
        refine EQ.keep [2, 7, 9, 10, 11, 12, 13, 14, 81] [(2, ig a10), (7, sv a7 a8 a4), (9, pt a6 0), (10, pt a5 0), (11, ia b6), (12, pt a1 0), (13, pt b0 0), (14, pt b9 0), (81, .bool (true))] (by kernel_rfl) ?_
        exact fun a ha => ⟨true, ha, (hS.re [6, 6, 6, 6, 6, 6, 6] [] rfl (sub_cons 0 rfl (sub_cons 1 rfl (sub_cons 2 rfl (sub_cons 3 rfl (sub_cons 4 rfl (sub_cons 5 rfl (sub_cons 6 rfl (sub_cons 7 rfl (sub_tail (sub_tail (sub_tail (sub_tail (sub_tail (sub_tail (sub_tail (sub_tail (sub_self)))))))))))))))))), H⟩
       rw [if_neg p7] at H
       refine EL.keep [2, 7, 9, 10, 11, 12, 13, 14, 51, 52, 53, 54, 57, 58, 59, 61] [(2, ig a10), (7, sv a7 a8 a4), (9, pt a6 0), (10, pt a5 0), (11, ia b6), (12, pt a1 0), (13, pt b0 0), (14, pt b9 0), (51, ag (cellsS58 a0 (b4, b5))), (52, ag (cellsS58 a2 (b7, b8))), (53, .bool (true)), (54, .bool (false)), (57, pt a1 0), (58, ib a0.f0), (59, .bool (!(decide (a0.f0 = 4)))), (61, .bool (!(decide (a0.f0 = 4))))] (by kernel_rfl) ?_
       refine EL.as' [(2, ig a10), (7, sv a7 a8 a4), (9, pt a6 0), (10, pt a5 0), (11, ia b6), (12, pt a1 0), (13, pt b0 0), (14, pt b9 0), (51, ag (cellsS58 a0 (b4, b5))), (52, ag (cellsS58 a2 (b7, b8))), (53, .bool (true)), (54, .bool (false)), (57, pt a1 0), (58, ib a0.f0), (59, .bool (true)), (61, .bool (true))] (by simp only [cellsS58, encS63, encS71, dec_f p7, Bool.not_true, Bool.not_false]) ?_
       refine EL.quick 20 [2, 7, 9, 10, 11, 12, 13, 14, 51, 52, 53, 54, 57, 58, 59, 81] [(2, ig a10), (7, sv a7 a8 a4), (9, pt a6 0), (10, pt a5 0), (11, ia b6), (12, pt a1 0), (13, pt b0 0), (14, pt b9 0), (51, ag (cellsS58 a0 (b4, b5))), (52, ag (cellsS58 a2 (b7, b8))), (53, .bool (true)), (54, .bool (false)), (57, pt a1 0), (58, ib a0.f0), (59, .bool (true)), (81, .bool (true))] (by kernel_rfl) ?_
       refine EL.done (by kernel_rfl) ?_
       refine EQ.to ?_
       refine EQ.keep [2, 7, 9, 10, 11, 12, 13, 14, 81] [(2, ig a10), (7, sv a7 a8 a4), (9, pt a6 0), (10, pt a5 0), (11, ia b6), (12, pt a1 0), (13, pt b0 0), (14, pt b9 0), (81, .bool (true))] (by kernel_rfl) ?_
       exact fun a ha => ⟨true, ha, (hS.re [6, 6, 6, 6, 6, 6, 6] [] rfl (sub_cons 0 rfl (sub_cons 1 rfl (sub_cons 2 rfl (sub_cons 3 rfl (sub_cons 4 rfl (sub_cons 5 rfl (sub_cons 6 rfl (sub_cons 7 rfl (sub_tail (sub_tail (sub_tail (sub_tail (sub_tail (sub_tail (sub_tail (sub_tail (sub_self)))))))))))))))))), H⟩
      rw [if_neg p6] at H
      refine EL.keep [2, 7, 9, 10, 11, 12, 13, 14, 51, 52, 53, 54, 56] [(2, ig a10), (7, sv a7 a8 a4), (9, pt a6 0), (10, pt a5 0), (11, ia b6), (12, pt a1 0), (13, pt b0 0), (14, pt b9 0), (51, ag (cellsS58 a0 (b4, b5))), (52, ag (cellsS58 a2 (b7, b8))), (53, .bool (i1)), (54, .bool (!(i1))), (56, .bool (!(i1)))] (by kernel_rfl) ?_
      refine EL.as' [(2, ig a10), (7, sv a7 a8 a4), (9, pt a6 0), (10, pt a5 0), (11, ia b6), (12, pt a1 0), (13, pt b0 0), (14, pt b9 0), (51, ag (cellsS58 a0 (b4, b5))), (52, ag (cellsS58 a2 (b7, b8))), (53, .bool (false)), (54, .bool (true)), (56, .bool (true))] (by simp only [cellsS58, encS63, encS71, (Bool.eq_false_iff.2 p6), Bool.not_true, Bool.not_false]) ?_
      refine EL.quick 25 [2, 7, 9, 10, 11, 12, 13, 14, 51, 52, 53, 54, 81] [(2, ig a10), (7, sv a7 a8 a4), (9, pt a6 0), (10, pt a5 0), (11, ia b6), (12, pt a1 0), (13, pt b0 0), (14, pt b9 0), (51, ag (cellsS58 a0 (b4, b5))), (52, ag (cellsS58 a2 (b7, b8))), (53, .bool (false)), (54, .bool (true)), (81, .bool (true))] (by kernel_rfl) ?_
      refine EL.done (by kernel_rfl) ?_
      refine EQ.to ?_
      refine EQ.keep [2, 7, 9, 10, 11, 12, 13, 14, 81] [(2, ig a10), (7, sv a7 a8 a4), (9, pt a6 0), (10, pt a5 0), (11, ia b6), (12, pt a1 0), (13, pt b0 0), (14, pt b9 0), (81, .bool (true))] (by kernel_rfl) ?_
      exact fun a ha => ⟨true, ha, (hS.re [6, 6, 6, 6, 6, 6, 6] [] rfl (sub_cons 0 rfl (sub_cons 1 rfl (sub_cons 2 rfl (sub_cons 3 rfl (sub_cons 4 rfl (sub_cons 5 rfl (sub_cons 6 rfl (sub_cons 7 rfl (sub_tail (sub_tail (sub_tail (sub_tail (sub_tail (sub_tail (sub_tail (sub_tail (sub_self)))))))))))))))))), H⟩
     rw [if_neg p5] at H
     refine EL.keep [2, 7, 9, 10, 11, 12, 13, 14, 50] [(2, ig a10), (7, sv a7 a8 a4), (9, pt a6 0), (10, pt a5 0), (11, ia b6), (12, pt a1 0), (13, pt b0 0), (14, pt b9 0), (50, .bool (!(((c0.f0 == c5.f0) && ((c0.f1 == c5.f1) && ((c0.f2 == c5.f2) && true))))))] (by kernel_rfl) ?_
     refine EL.as' [(2, ig a10), (7, sv a7 a8 a4), (9, pt a6 0), (10, pt a5 0), (11, ia b6), (12, pt a1 0), (13, pt b0 0), (14, pt b9 0), (50, .bool (true))] (by simp only [cellsS58, encS63, encS71, (Bool.eq_false_iff.2 p5), Bool.not_true, Bool.not_false]) ?_
     refine EL.quick 31 [2, 7, 9, 10, 11, 12, 13, 14, 81] [(2, ig a10), (7, sv a7 a8 a4), (9, pt a6 0), (10, pt a5 0), (11, ia b6), (12, pt a1 0), (13, pt b0 0), (14, pt b9 0), (81, .bool (true))] (by kernel_rfl) ?_
     refine EL.done (by kernel_rfl) ?_
     refine EQ.to ?_
     refine EQ.keep [2, 7, 9, 10, 11, 12, 13, 14, 81] [(2, ig a10), (7, sv a7 a8 a4), (9, pt a6 0), (10, pt a5 0), (11, ia b6), (12, pt a1 0), (13, pt b0 0), (14, pt b9 0), (81, .bool (true))] (by kernel_rfl) ?_
     exact fun a ha => ⟨true, ha, (hS.re [6, 6, 6, 6, 6, 6, 6] [] rfl (sub_cons 3 rfl (sub_cons 0 rfl (sub_cons 1 rfl (sub_cons 2 rfl (sub_cons 4 rfl (sub_cons 5 rfl (sub_cons 6 rfl (sub_cons 7 rfl (sub_tail (sub_tail (sub_tail (sub_tail (sub_tail (sub_tail (sub_tail (sub_tail (sub_self)))))))))))))))))), H⟩
    obtain ⟨j4, ha, hS, H⟩ := hI
    rw [t4] at H
    (try dsimp only at H)
    refine EW.at ?_ a ha
    clear ha a
    refine EW.cdP' (j4) (by kernel_rfl) (by kernel_rfl) (fun q6 => ?_) (fun q6 => ?_)
    ·rw [if_pos q6] at H
     refine EW.sq (by kernel_rfl) ?_
     refine EW.rg (by kernel_rfl) ?_
     refine EL.quick 1 [6] [(6, .bool (false))] (by kernel_rfl) ?_
     refine EL.done (by kernel_rfl) ?_
     refine EQ.code ?_
     refine EW.ret (by kernel_rfl) ?_
     refine EQ.ret ?_
     refine EQ.ret ?_
     refine EQ.ret ?_
     refine EQ.ret ?_
     refine EQ.ret ?_
     refine EQ.ret ?_
     obtain rfl := Option.some.inj H
     exact EQ.leave (.bool (false)) (by kernel_rfl) ⟨_, rfl, rfl, (hS.re [] [0, 0, 0, 0, 0, 0, 0] rfl (sub_tail (sub_tail (sub_tail (sub_tail (sub_tail (sub_tail (sub_tail (sub_self)))))))))⟩
    rw [if_neg q6] at H
    refine EW.skip (by kernel_rfl) ?_
    refine EQ.code ?_
    refine EW.sq (by kernel_rfl) ?_
    refine EW.sq (by kernel_rfl) ?_
    refine EW.rg (by kernel_rfl) ?_
    refine EL.quick 1 [2, 7, 9, 10, 11, 12, 13, 14, 82] [(2, ig a10), (7, sv a7 a8 a4), (9, pt a6 0), (10, pt a5 0), (11, ia b6), (12, pt a1 0), (13, pt b0 0), (14, pt b9 0), (82, pt b0 0)] (by kernel_rfl) ?_
    refine EL.of (EO.Y (YO.loadBox hS 2 rfl 3 0 1 (ia c0.f0) 83 (by kernel_rfl) (by kernel_rfl) (by kernel_rfl) (by kernel_rfl)) ?_)
    refine EL.quick 1 [2, 7, 9, 10, 11, 12, 13, 14, 84] [(2, ig a10), (7, sv a7 a8 a4), (9, pt a6 0), (10, pt a5 0), (11, ia b6), (12, pt a1 0), (13, pt b0 0), (14, pt b9 0), (84, .bool (!(decide (c0.f0 = 1))))] (by kernel_rfl) ?_
    refine EL.done (by kernel_rfl) ?_
    refine EQ.code ?_
    refine EW.cdQ (b := !(decide (c0.f0 = 1))) (c0.f0 = 1) (false) (by kernel_rfl) (by kernel_rfl) ⟨fun h => (by rw [decide_eq_true h] <;> rfl), fun h => (by rw [decide_eq_false h] <;> rfl)⟩ (fun q7 => ?_) (fun q7 => ?_)
    ·rw [if_pos q7] at H
     refine EW.skip (by kernel_rfl) ?_
     refine EQ.code ?_
     have hS := hS.drew
     refine EW.dr (B := B) [Ass.box 63 i7 (encS63 c5), Ass.box 58 b9 (cellsS58 a2 (b7, b8)), Ass.box 63 b0 (encS63 c0), Ass.box 58 a1 (cellsS58 a0 (b4, b5)), Ass.box 71 c4 [ia 0, ib a9, ia 2, ia 3, ie 5, ia 1]] [Ro.sl (Kd.int .i32) b4 b5 a0.f3, Ro.sl (Kd.int .i32) b7 b8 a2.f3, Ro.sl (Kd.int .i32) d2 d3 c9, Ro.sl (Kd.slice kS32) a7 a8 a4, Ro.sl (Kd.int .i32) d0 d1 c8, Ro.sl (Kd.int .i32) g5 g7 b3.f3, Ro.sl (Kd.int .i32) g6 g8 a3.f3, Ro.sl (Kd.int .u8) A7 C8 l6] (by kernel_rfl) (by kernel_rfl) ?_
     have hN : Region.noSelect Cd9.r.r.r.r.r.r.l.r.l.l.r.l.l.r.r.r.r.ops = true := (by kernel_rfl)
     have hF : freeAll Cd9.r.r.r.r.r.r.l.r.l.l.r.l.l.r.r.r.r.ops = true := (by kernel_rfl)
     have hC : Core B [Ass.box 63 i7 (encS63 c5), Ass.box 58 b9 (cellsS58 a2 (b7, b8)), Ass.box 63 b0 (encS63 c0), Ass.box 58 a1 (cellsS58 a0 (b4, b5)), Ass.box 71 c4 [ia 0, ib a9, ia 2, ia 3, ie 5, ia 1]] [Ro.sl (Kd.int .i32) b4 b5 a0.f3, Ro.sl (Kd.int .i32) b7 b8 a2.f3, Ro.sl (Kd.int .i32) d2 d3 c9, Ro.sl (Kd.slice kS32) a7 a8 a4, Ro.sl (Kd.int .i32) d0 d1 c8, Ro.sl (Kd.int .i32) g5 g7 b3.f3, Ro.sl (Kd.int .i32) g6 g8 a3.f3, Ro.sl (Kd.int .u8) A7 C8 l6] _ := ⟨_, _, hS.re [6, 4, 4, 4, 4] [] rfl sub_self⟩
     refine ED.Y hN hF hC 0 3 (bm 4 1) (by kernel_rfl) (by kernel_rfl) rfl (fun _ _ _ hS => YO.loadBox hS 3 rfl 58 0 12 (ag (cellsS58 a0 (b4, b5))) 93 (by kernel_rfl) (by kernel_rfl) (by kernel_rfl) (by kernel_rfl)) ?_
     refine ED.Y hN hF hC 1 2 (bm 4 3) (by kernel_rfl) (by kernel_rfl) rfl (fun _ _ _ hS => YO.loadBox hS 1 rfl 58 0 12 (ag (cellsS58 a2 (b7, b8))) 94 (by kernel_rfl) (by kernel_rfl) (by kernel_rfl) (by kernel_rfl)) ?_
     refine ED.one 2 1 (bm 4 7) (by kernel_rfl) (by kernel_rfl) (by kernel_rfl) (EO.storeBox (os' := Ass.box 63 i7 (encS63 c5) :: Ass.box 58 b9 (cellsS58 a2 (b7, b8)) :: Ass.box 63 b0 (encS63 c0) :: Ass.box 58 a1 (cellsS58 a0 (b4, b5)) :: Ass.box 58 a5 [ib e5, ia e6, ia e7, sv d2 d3 c9, ib e8, ib e9, ib f9, ib g0, ia g1, ia g2, ie g3, ia g4] :: Ass.box 58 a6 (cellsS58 a0 (b4, b5)) :: Ass.box 71 c4 [ia 0, ib a9, ia 2, ia 3, ie 5, ia 1] :: os) hS 5 rfl 58 0 (ag (cellsS58 a0 (b4, b5))) (cellsS58 a0 (b4, b5)) (by kernel_rfl) (by kernel_rfl) (by kernel_rfl) (by kernel_rfl) (by kernel_rfl) (by kernel_rfl) rfl rfl ?_)
     intro w hS
     have hC := hC.again ⟨_, _, hS.re [6, 4, 4, 4, 4] [] rfl sub_self⟩
     refine ⟨hC, ?_⟩
     refine ED.keep [2, 7, 9, 10, 11, 94] [(2, ig a10), (7, sv a7 a8 a4), (9, pt a6 0), (10, pt a5 0), (11, ia b6), (94, ag (cellsS58 a2 (b7, b8)))] (by kernel_rfl) ?_
     refine ED.one 3 0 (bm 4 15) (by kernel_rfl) (by kernel_rfl) (by kernel_rfl) (EO.storeBox (os' := Ass.box 63 i7 (encS63 c5) :: Ass.box 58 b9 (cellsS58 a2 (b7, b8)) :: Ass.box 63 b0 (encS63 c0) :: Ass.box 58 a1 (cellsS58 a0 (b4, b5)) :: Ass.box 58 a5 (cellsS58 a2 (b7, b8)) :: Ass.box 58 a6 (cellsS58 a0 (b4, b5)) :: Ass.box 71 c4 [ia 0, ib a9, ia 2, ia 3, ie 5, ia 1] :: os) hS 4 rfl 58 0 (ag (cellsS58 a2 (b7, b8))) (cellsS58 a2 (b7, b8)) (by kernel_rfl) (by kernel_rfl) (by kernel_rfl) (by kernel_rfl) (by kernel_rfl) (by kernel_rfl) rfl rfl ?_)
     intro w hS
     have hC := hC.again ⟨_, _, hS.re [6, 4, 4, 4, 4] [] rfl sub_self⟩
     refine ⟨hC, ?_⟩
     refine ED.done (by kernel_rfl) ?_
     refine EQ.pop ?_
     refine EQ.code ?_
     refine EW.rg (by kernel_rfl) ?_
     refine EL.quick 3 [2, 7, 9, 10, 11] [(2, ig a10), (7, sv a7 a8 a4), (9, pt a6 0), (10, pt a5 0), (11, ia (IntKind.i64.wrap (b6 + 1)))] (by kernel_rfl) ?_
     refine EL.done (by kernel_rfl) ?_
     refine EQ.to ?_
     refine EQ.keep [2, 7, 9, 10, 11] [(2, ig a10), (7, sv a7 a8 a4), (9, pt a6 0), (10, pt a5 0), (11, ia (IntKind.i64.wrap (b6 + 1)))] (by kernel_rfl) ?_
     exact fun a ha => ⟨n, Nat.lt_succ_self n, a2.f0, a2.f1, a2.f2, a2.f3, a2.f4.f0, a2.f4.f1, a2.f4.f2, a2.f4.f3, a2.f5, a2.f6, a2.f7, a2.f8, a0.f0, a0.f1, a0.f2, a0.f3, a0.f4.f0, a0.f4.f1, a0.f4.f2, a0.f4.f3, a0.f5, a0.f6, a0.f7, a0.f8, a4, IntKind.i64.wrap (b6 + 1), b7, b8, b4, b5, a7, a8, ha, (hS.re [6, 6, 6] [3, 3, 3, 3] rfl (sub_cons 1 rfl (sub_cons 0 rfl (sub_cons 3 rfl (sub_cons 5 rfl (sub_cons 6 rfl (sub_cons 7 rfl (sub_tail (sub_tail (sub_tail (sub_tail (sub_tail (sub_tail (sub_tail (sub_tail (sub_self)))))))))))))))), H⟩
    rw [if_neg q7] at H
    refine EW.sq (by kernel_rfl) ?_
    refine EW.rg (by kernel_rfl) ?_
    refine EL.of (EO.Y (YO.loadBox hS 3 rfl 58 0 12 (ag (cellsS58 a0 (b4, b5))) 85 (by kernel_rfl) (by kernel_rfl) (by kernel_rfl) (by kernel_rfl)) ?_)
    refine EL.of (EO.Y (YO.loadBox hS 5 rfl 58 0 12 (ag [ib d4, ia d5, ia d6, sv d0 d1 c8, ib d7, ib d8, ib d9, ib e0, ia e1, ia e2, ie e3, ia e4]) 86 (by kernel_rfl) (by kernel_rfl) (by kernel_rfl) (by kernel_rfl)) ?_)
    have hS : St B _ (Ass.box 63 i7 (encS63 c5) :: Ass.box 58 b9 (cellsS58 a2 (b7, b8)) :: Ass.box 63 b0 (encS63 c0) :: Ass.box 58 a1 (cellsS58 a0 (b4, b5)) :: Ass.box 58 a5 [ib e5, ia e6, ia e7, sv d2 d3 c9, ib e8, ib e9, ib f9, ib g0, ia g1, ia g2, ie g3, ia g4] :: Ass.box 58 a6 [ib d4, ia d5, ia d6, sv d0 d1 c8, ib d7, ib d8, ib d9, ib e0, ia e1, ia e2, ie e3, ia e4] :: Ass.box 71 c4 [ia 0, ib a9, ia 2, ia 3, ie 5, ia 1] :: os) (Ro.sl (Kd.int .i32) b4 b5 a0.f3 :: Ro.sl (Kd.int .i32) d0 d1 c8 :: Ro.sl (Kd.int .i32) b7 b8 a2.f3 :: Ro.sl (Kd.int .i32) d2 d3 c9 :: Ro.sl (Kd.slice kS32) a7 a8 a4 :: Ro.sl (Kd.int .i32) g5 g7 b3.f3 :: Ro.sl (Kd.int .i32) g6 g8 a3.f3 :: Ro.sl (Kd.int .u8) A7 C8 l6 :: rs) := hS.re [] [] rfl (sub_cons 0 rfl (sub_cons 4 rfl (sub_cons 1 rfl (sub_cons 2 rfl (sub_cons 3 rfl (sub_tail (sub_tail (sub_tail (sub_tail (sub_tail (sub_self)))))))))))
    obtain ⟨j3, t3, H⟩ := b1_out H
    have hq := confidantref9_Same.calls t3 hS
    refine EL.of (EO.callD 30 [ag (cellsS58 a0 (b4, b5)), ag [ib d4, ia d5, ia d6, sv d0 d1 c8, ib d7, ib d8, ib d9, ib e0, ia e1, ia e2, ie e3, ia e4]] _ 87 (by kernel_rfl) (by kernel_rfl) (by kernel_rfl) hq ?_)
    rintro v w ⟨rfl, hS⟩
    refine EL.quick 1 [13, 88] [(13, pt b0 0), (88, .bool (j3))] (by kernel_rfl) ?_
    by_cases q1 : j3 = true
    ·rw [if_pos q1] at H
     refine EL.keep [13, 88] [(13, pt b0 0), (88, .bool (j3))] (by kernel_rfl) ?_
     refine EL.as' [(13, pt b0 0), (88, .bool (true))] (by simp only [cellsS58, encS63, encS71, q1, Bool.not_true, Bool.not_false]) ?_
     refine EL.quick 5 [6] [(6, .bool (true))] (by kernel_rfl) ?_
     refine EL.done (by kernel_rfl) ?_
     refine EQ.code ?_
     refine EW.ret (by kernel_rfl) ?_
     refine EQ.ret ?_
     refine EQ.ret ?_
     refine EQ.ret ?_
     refine EQ.ret ?_
     refine EQ.ret ?_
     refine EQ.ret ?_
     obtain rfl := Option.some.inj H
     exact EQ.leave (.bool (true)) (by kernel_rfl) ⟨_, rfl, rfl, (hS.re [] [0, 0, 0, 0, 0, 0, 0] rfl (sub_tail (sub_tail (sub_tail (sub_tail (sub_tail (sub_tail (sub_tail (sub_self)))))))))⟩
    rw [if_neg q1] at H
    refine EL.keep [13, 88] [(13, pt b0 0), (88, .bool (j3))] (by kernel_rfl) ?_
    refine EL.as' [(13, pt b0 0), (88, .bool (false))] (by simp only [cellsS58, encS63, encS71, (Bool.eq_false_iff.2 q1), Bool.not_true, Bool.not_false]) ?_
    refine EL.quick 1 [88, 89] [(88, .bool (false)), (89, pt b0 0)] (by kernel_rfl) ?_
    refine EL.of (EO.Y (YO.loadBox hS 2 rfl 3 0 1 (ia c0.f0) 90 (by kernel_rfl) (by kernel_rfl) (by kernel_rfl) (by kernel_rfl)) ?_)
    refine EL.quick 3 [6] [(6, .bool (decide (c0.f0 = 4)))] (by kernel_rfl) ?_
    refine EL.done (by kernel_rfl) ?_
    refine EQ.code ?_
    refine EW.ret (by kernel_rfl) ?_
    refine EQ.ret ?_
    refine EQ.ret ?_
    refine EQ.ret ?_
    refine EQ.ret ?_
    refine EQ.ret ?_
    refine EQ.ret ?_
    obtain rfl := Option.some.inj H
    exact EQ.leave (.bool (decide (c0.f0 = 4))) (by kernel_rfl) ⟨_, rfl, rfl, (hS.re [] [0, 0, 0, 0, 0, 0, 0] rfl (sub_tail (sub_tail (sub_tail (sub_tail (sub_tail (sub_tail (sub_tail (sub_self)))))))))⟩
   rw [if_neg q5] at H
   refine EW.exit (id := 0) (by kernel_rfl) ?_
   refine EQ.exitCode ?_
   refine EQ.exitTo ?_
   refine EQ.exitHere ?_
   refine EQ.code ?_
   refine EW.sq (by kernel_rfl) ?_
   refine EW.rg (by kernel_rfl) ?_
   refine EL.quick 1 [6] [(6, .bool (true))] (by kernel_rfl) ?_
   refine EL.done (by kernel_rfl) ?_
   refine EQ.code ?_
   refine EW.ret (by kernel_rfl) ?_
   obtain rfl := Option.some.inj H
   exact EQ.leave (.bool (true)) (by kernel_rfl) ⟨_, rfl, rfl, (hS.re [] [0, 0, 0] rfl (sub_tail (sub_tail (sub_tail (sub_tail (sub_tail (sub_self)))))))⟩
 rw [if_neg q3] at H
 refine EW.sq (by kernel_rfl) ?_
 refine EW.rg (by kernel_rfl) ?_
 refine EL.quick 1 [6] [(6, .bool (false))] (by kernel_rfl) ?_
 refine EL.done (by kernel_rfl) ?_
 refine EQ.code ?_
 refine EW.ret (by kernel_rfl) ?_
 refine EQ.ret ?_
 obtain rfl := Option.some.inj H
 exact EQ.leave (.bool (false)) (by kernel_rfl) ⟨_, rfl, rfl, (hS.re [] [] rfl (sub_self))⟩

def confidantlaw10_TaskRuns.Pure : Prop := ∀ (l6 : List Int) (a9 : Int) (a10 : Int), l6.length * 1 ≤ 140737488351232 → (∀ x ∈ l6, (Lit.int .u8 x).wf = true) → (Lit.int .i32 a9).wf = true → (Lit.int .u8 a10).wf = true → ∃ K, confidantlaw10_TaskRuns.f K l6 a9 a10 = some true

end Go.Proofs.Ytlcnkngpankkpaa.G
