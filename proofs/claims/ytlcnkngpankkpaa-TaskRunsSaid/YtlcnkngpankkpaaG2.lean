import Derived.Test.YtlcnkngpankkpaaProg
import Derived.Test.YtlcnkngpankkpaaFwShort
import Derived.Test.YtlcnkngpankkpaaFwOpen
import Derived.Test.YtlcnkngpankkpaaG0
import Derived.Test.YtlcnkngpankkpaaG1
namespace Go.Proofs.Ytlcnkngpankkpaa.G
open Go Go.Fw Go.RowKit Go.Proofs
set_option linter.unusedVariables false
set_option linter.unusedSimpArgs false

/-! ### confidant/confidantlaw10.known: function 25 -/
def confidantlaw10_known.f (K : Nat)  : Option Bool := lt ([(⟨1, 4⟩ : S32), (⟨25, 0⟩ : S32)] : List S32) fun b5 => (b1 (task_New.f K 7 (⟨0, 3, 1, 2, 0, 1⟩ : S71)) fun (a7 : S58) => (b2 (task_Step.f K a7 ([b5] : List (List S32))) fun (b7 : S63) (a4 : S58) => (b2 (task_Step.f K a4 ([b5] : List (List S32))) fun (b6 : S63) (c0 : S58) => (b2 (task_Step.f K a7 ([] : List (List S32))) fun (b8 : S63) (c6 : S58) => (b1 (task_Child.f K a7 9 1 5 1) fun (a8 : S58) => (lt ([6, 7] : List Int) fun d5 => (b1 (task_Drop.f K a4 1 d5) fun (c5 : S58) => (if b7.f0 = 1 then (if (a4.f3.length : Int) = 1 then (if a4.f2 = 1 then (if a4.f4.f0 = 3 then (if b6.f0 = 2 then (if b6.f1 = 4 then (b1 (task_Same.f K a4 c0) fun (d6 : Bool) => (if d6 = true then (if b8.f0 = 3 then (if b8.f2 = 24 then (if a8.f0 = 9 then (if a8.f5 = 1 then (if a8.f6 = 1 then (if a8.f4.f0 = 5 then (if (c5.f3.length : Int) = 2 then (some (decide (c5.f2 = 2))) else (some false)) else (some false)) else (some false)) else (some false)) else (some false)) else (some false)) else (some false)) else (some false))) else (some false)) else (some false)) else (some false)) else (some false)) else (some false)) else (some false)))))))))
set_option maxRecDepth 100000 in
theorem confidantlaw10_known.calls {K : Nat} {g1 : Bool} {B w : World} {os : List Ass} {rs : List Ro} (H : confidantlaw10_known.f K = some g1) (hS : St B w (os) (rs)) :
  Calls Try.prog 25 [].toArray w (fun en w' => ∃ v, en = .returned v ∧ v = .bool (g1) ∧ St B w' (os) (rs)) := by
 unfold confidantlaw10_known.f at H
 refine calls_of_EW (args := []) (c := Cd25) 116 Try.func25 (by kernel_rfl) (by kernel_rfl) (by kernel_rfl) ?_
 refine EW.sq (by kernel_rfl) ?_
 refine EW.rg (by kernel_rfl) ?_
 refine EL.quick 1 [] [] (by kernel_rfl) ?_
 refine EL.done (by kernel_rfl) ?_
 refine EQ.code ?_
 refine EW.sq (by kernel_rfl) ?_
 refine EW.rg (by kernel_rfl) ?_
 refine EL.quick 2 [11, 12] [(11, ag [ia 1, ib 4]), (12, ag [ia 25, ib 0])] (by kernel_rfl) ?_
 obtain ⟨b5, f9, H⟩ := lt_out H
 refine EL.of (EO.lit hS kS32 32 29 2 #[(0, ag [ia 1, ib 4]), (1, ag [ia 25, ib 0])] [ia 1, ib 4, ia 25, ib 0] b5 13 (by kernel_rfl) (by kernel_rfl) (by kernel_rfl) (fun _ => (by kernel_rfl)) (by rw [f9]; rfl) (by kernel_rfl) (fun w G hr => (by rw [f9]; exact ⟨[ia 1, ib 4], [ia 25, ib 0], rfl, ⟨[ia 1], [ib 4], rfl, rfl, ⟨[ib 4], [], rfl, rfl, rfl⟩⟩, ⟨[ia 25, ib 0], [], rfl, ⟨[ia 25], [ib 0], rfl, rfl, ⟨[ib 0], [], rfl, rfl, rfl⟩⟩, rfl⟩⟩)) ?_)
 intro d1 w hS
 refine EL.of (EO.lit (xs := ([((some ⟨d1, 0, none⟩), b5.length, 2)] : List Hdr)) hS Kd.hdr 29 23 1 #[(0, sv (some ⟨d1, 0, none⟩) 2 b5)] [sv (some ⟨d1, 0, none⟩) 2 b5] 14 (by kernel_rfl) (by kernel_rfl) (by kernel_rfl) (fun _ => (by kernel_rfl)) rfl (by kernel_rfl) (fun w G hr => ⟨[sv (some ⟨d1, 0, none⟩) 2 b5], [], rfl, rfl, rfl⟩) ?_)
 intro c4 w hS
 refine EL.quick 1 [1] [(1, sv (some ⟨c4, 0, none⟩) 1 ([b5] : List (List S32)))] (by kernel_rfl) ?_
 refine EL.done (by kernel_rfl) ?_
 refine EQ.code ?_
 refine EW.sq (by kernel_rfl) ?_
 refine EW.rg (by kernel_rfl) ?_
 refine EL.quick 1 [1, 15] [(1, sv (some ⟨c4, 0, none⟩) 1 ([b5] : List (List S32))), (15, ag [ia 0, ib 3, ia 1, ia 2, ie 0, ia 1])] (by kernel_rfl) ?_
 obtain ⟨a7, g2, H⟩ := b1_out H
 have hq := task_New.calls g2 hS
 refine EL.of (EO.callD 36 [ib 7, ag [ia 0, ib 3, ia 1, ia 2, ie 0, ia 1]] _ 16 (by kernel_rfl) (by kernel_rfl) (by kernel_rfl) hq ?_)
 rintro v w ⟨a9, b0, rfl, hS⟩
 refine EL.of (EO.alloc hS 58 (ag (cellsS58 zS58 (none, 0))) (cellsS58 zS58 (none, 0)) 2 (by kernel_rfl) (by kernel_rfl) (by kernel_rfl) (by kernel_rfl) (by first | rfl | kernel_rfl) ?_)
 intro b9 w hS
 refine EL.of (EO.storeBox (os' := Ass.box 58 b9 (cellsS58 a7 (a9, b0)) :: Ass.own 29 Kd.hdr (some ⟨c4, 0, none⟩) 1 ([((some ⟨d1, 0, none⟩), b5.length, 2)] : List Hdr) :: Ass.own 32 kS32 (some ⟨d1, 0, none⟩) 2 b5 :: os) hS 0 rfl 58 0 (ag (cellsS58 a7 (a9, b0))) (cellsS58 a7 (a9, b0)) (by kernel_rfl) (by kernel_rfl) (by kernel_rfl) (by kernel_rfl) (by kernel_rfl) (by kernel_rfl) rfl rfl ?_)
 intro w hS
 refine EL.done (by kernel_rfl) ?_
 refine EQ.code ?_
 refine EW.sq (by kernel_rfl) ?_
 refine EW.rg (by kernel_rfl) ?_
 refine EL.of (EO.Y (YO.loadBox hS 0 rfl 58 0 12 (ag (cellsS58 a7 (a9, b0))) 18 (by kernel_rfl) (by kernel_rfl) (by kernel_rfl) (by kernel_rfl)) ?_)
 refine EL.quick 1 [1, 2, 18, 19] [(1, sv (some ⟨c4, 0, none⟩) 1 ([b5] : List (List S32))), (2, pt b9 0), (18, ag (cellsS58 a7 (a9, b0))), (19, sv (some ⟨c4, 0, none⟩) 1 ([b5] : List (List S32)))] (by kernel_rfl) ?_
 have hS := St.as (os' := Ass.deep 29 32 kS32 (some ⟨c4, 0, none⟩) 1 ([b5] : List (List S32)) :: Ass.box 58 b9 (cellsS58 a7 (a9, b0)) :: os) (St.fold (B := B) (os := _) (rs := _) (et := 29) (et' := 32) (K := kS32) (hs := [((some ⟨d1, 0, none⟩), b5.length, 2)]) (xs := ([b5] : List (List S32))) ⟨rfl, trivial⟩ (St.re hS [2, 2] [] rfl sub_self)) rfl
 have hS := St.frDeep hS 0 rfl
 have hS : St B _ (Ass.box 58 b9 (cellsS58 a7 (a9, b0)) :: os) (Ro.sl (Kd.int .i32) a9 b0 a7.f3 :: Ro.sl (Kd.slice kS32) (some ⟨c4, 0, none⟩) 1 ([b5] : List (List S32)) :: rs) := hS.re [] [] rfl (sub_cons 1 rfl (sub_cons 0 rfl (sub_tail (sub_tail (sub_self)))))
 obtain ⟨b7, a4, g3, H⟩ := b2_out H
 have hq := task_Step.calls g3 hS
 refine EL.of (EO.callD 28 [ag (cellsS58 a7 (a9, b0)), sv (some ⟨c4, 0, none⟩) 1 ([b5] : List (List S32))] _ 20 (by kernel_rfl) (by kernel_rfl) (by kernel_rfl) hq ?_)
 rintro v w ⟨b3, b4, rfl, hS⟩
 refine EL.quick 3 [1, 2, 21, 22] [(1, sv (some ⟨c4, 0, none⟩) 1 ([b5] : List (List S32))), (2, pt b9 0), (21, ag (cellsS58 a4 (b3, b4))), (22, ag (encS63 b7))] (by kernel_rfl) ?_
 refine EL.of (EO.alloc hS 58 (ag (cellsS58 zS58 (none, 0))) (cellsS58 zS58 (none, 0)) 3 (by kernel_rfl) (by kernel_rfl) (by kernel_rfl) (by kernel_rfl) (by first | rfl | kernel_rfl) ?_)
 intro a3 w hS
 refine EL.of (EO.alloc hS 63 (ag (encS63 zS63)) (encS63 zS63) 4 (by kernel_rfl) (by kernel_rfl) (by kernel_rfl) (by kernel_rfl) (by first | rfl | kernel_rfl) ?_)
 intro c3 w hS
 refine EL.of (EO.storeBox (os' := Ass.box 63 c3 (encS63 zS63) :: Ass.box 58 a3 (cellsS58 a4 (b3, b4)) :: Ass.box 58 b9 (cellsS58 a7 (a9, b0)) :: os) hS 1 rfl 58 0 (ag (cellsS58 a4 (b3, b4))) (cellsS58 a4 (b3, b4)) (by kernel_rfl) (by kernel_rfl) (by kernel_rfl) (by kernel_rfl) (by kernel_rfl) (by kernel_rfl) rfl rfl ?_)
 intro w hS
 refine EL.of (EO.storeBox (os' := Ass.box 63 c3 (encS63 b7) :: Ass.box 58 a3 (cellsS58 a4 (b3, b4)) :: Ass.box 58 b9 (cellsS58 a7 (a9, b0)) :: os) hS 0 rfl 63 0 (ag (encS63 b7)) (encS63 b7) (by kernel_rfl) (by kernel_rfl) (by kernel_rfl) (by kernel_rfl) (by kernel_rfl) (by kernel_rfl) rfl rfl ?_)
 intro w hS
 refine EL.done (by kernel_rfl) ?_
 refine EQ.code ?_
 refine EW.sq (by kernel_rfl) ?_
 refine EW.rg (by kernel_rfl) ?_
 refine EL.of (EO.Y (YO.loadBox hS 1 rfl 58 0 12 (ag (cellsS58 a4 (b3, b4))) 24 (by kernel_rfl) (by kernel_rfl) (by kernel_rfl) (by kernel_rfl)) ?_)
 refine EL.quick 1 [2, 3, 4, 24, 25] [(2, pt b9 0), (3, pt a3 0), (4, pt c3 0), (24, ag (cellsS58 a4 (b3, b4))), (25, sv (some ⟨c4, 0, none⟩) 1 ([b5] : List (List S32)))] (by kernel_rfl) ?_
 have hS : St B _ (Ass.box 63 c3 (encS63 b7) :: Ass.box 58 a3 (cellsS58 a4 (b3, b4)) :: Ass.box 58 b9 (cellsS58 a7 (a9, b0)) :: os) (Ro.sl (Kd.int .i32) b3 b4 a4.f3 :: Ro.sl (Kd.slice kS32) (some ⟨c4, 0, none⟩) 1 ([b5] : List (List S32)) :: Ro.sl (Kd.int .i32) a9 b0 a7.f3 :: rs) := hS.re [] [] rfl (sub_cons 0 rfl (sub_cons 2 rfl (sub_cons 1 rfl (sub_tail (sub_tail (sub_tail (sub_self)))))))
 obtain ⟨b6, c0, g4, H⟩ := b2_out H
 have hq := task_Step.calls g4 hS
 refine EL.of (EO.callD 28 [ag (cellsS58 a4 (b3, b4)), sv (some ⟨c4, 0, none⟩) 1 ([b5] : List (List S32))] _ 26 (by kernel_rfl) (by kernel_rfl) (by kernel_rfl) hq ?_)
 rintro v w ⟨c1, c2, rfl, hS⟩
 refine EL.quick 3 [2, 3, 4, 27, 28] [(2, pt b9 0), (3, pt a3 0), (4, pt c3 0), (27, ag (cellsS58 c0 (c1, c2))), (28, ag (encS63 b6))] (by kernel_rfl) ?_
 refine EL.of (EO.alloc hS 58 (ag (cellsS58 zS58 (none, 0))) (cellsS58 zS58 (none, 0)) 5 (by kernel_rfl) (by kernel_rfl) (by kernel_rfl) (by kernel_rfl) (by first | rfl | kernel_rfl) ?_)
 intro a5 w hS
 refine EL.of (EO.alloc hS 63 (ag (encS63 zS63)) (encS63 zS63) 6 (by kernel_rfl) (by kernel_rfl) (by kernel_rfl) (by kernel_rfl) (by first | rfl | kernel_rfl) ?_)
 intro a6 w hS
 refine EL.of (EO.storeBox (os' := Ass.box 63 a6 (encS63 zS63) :: Ass.box 58 a5 (cellsS58 c0 (c1, c2)) :: Ass.box 63 c3 (encS63 b7) :: Ass.box 58 a3 (cellsS58 a4 (b3, b4)) :: Ass.box 58 b9 (cellsS58 a7 (a9, b0)) :: os) hS 1 rfl 58 0 (ag (cellsS58 c0 (c1, c2))) (cellsS58 c0 (c1, c2)) (by kernel_rfl) (by kernel_rfl) (by kernel_rfl) (by kernel_rfl) (by kernel_rfl) (by kernel_rfl) rfl rfl ?_)
 intro w hS
 refine EL.of (EO.storeBox (os' := Ass.box 63 a6 (encS63 b6) :: Ass.box 58 a5 (cellsS58 c0 (c1, c2)) :: Ass.box 63 c3 (encS63 b7) :: Ass.box 58 a3 (cellsS58 a4 (b3, b4)) :: Ass.box 58 b9 (cellsS58 a7 (a9, b0)) :: os) hS 0 rfl 63 0 (ag (encS63 b6)) (encS63 b6) (by kernel_rfl) (by kernel_rfl) (by kernel_rfl) (by kernel_rfl) (by kernel_rfl) (by kernel_rfl) rfl rfl ?_)
 intro w hS
 refine EL.done (by kernel_rfl) ?_
 refine EQ.code ?_
 refine EW.sq (by kernel_rfl) ?_
 refine EW.rg (by kernel_rfl) ?_
 refine EL.of (EO.Y (YO.loadBox hS 4 rfl 58 0 12 (ag (cellsS58 a7 (a9, b0))) 30 (by kernel_rfl) (by kernel_rfl) (by kernel_rfl) (by kernel_rfl)) ?_)
 have hS := St.nilR hS (Kd.slice kS32)
 have hS : St B _ (Ass.box 63 a6 (encS63 b6) :: Ass.box 58 a5 (cellsS58 c0 (c1, c2)) :: Ass.box 63 c3 (encS63 b7) :: Ass.box 58 a3 (cellsS58 a4 (b3, b4)) :: Ass.box 58 b9 (cellsS58 a7 (a9, b0)) :: os) (Ro.sl (Kd.int .i32) a9 b0 a7.f3 :: Ro.sl (Kd.slice kS32) none 0 ([] : List (List S32)) :: Ro.sl (Kd.int .i32) c1 c2 c0.f3 :: Ro.sl (Kd.int .i32) b3 b4 a4.f3 :: Ro.sl (Kd.slice kS32) (some ⟨c4, 0, none⟩) 1 ([b5] : List (List S32)) :: rs) := hS.re [] [] rfl (sub_cons 4 rfl (sub_cons 0 rfl (sub_cons 1 rfl (sub_cons 2 rfl (sub_cons 3 rfl (sub_tail (sub_tail (sub_tail (sub_tail (sub_tail (sub_self)))))))))))
 obtain ⟨b8, c6, g5, H⟩ := b2_out H
 have hq := task_Step.calls g5 hS
 refine EL.of (EO.callD 28 [ag (cellsS58 a7 (a9, b0)), sv none 0 ([] : List (List S32))] _ 31 (by kernel_rfl) (by kernel_rfl) (by kernel_rfl) hq ?_)
 rintro v w ⟨c7, c8, rfl, hS⟩
 refine EL.quick 3 [2, 3, 4, 5, 6, 32, 33] [(2, pt b9 0), (3, pt a3 0), (4, pt c3 0), (5, pt a5 0), (6, pt a6 0), (32, ag (cellsS58 c6 (c7, c8))), (33, ag (encS63 b8))] (by kernel_rfl) ?_
 refine EL.of (EO.alloc hS 58 (ag (cellsS58 zS58 (none, 0))) (cellsS58 zS58 (none, 0)) 7 (by kernel_rfl) (by kernel_rfl) (by kernel_rfl) (by kernel_rfl) (by first | rfl | kernel_rfl) ?_)
 intro d2 w hS
 refine EL.of (EO.alloc hS 63 (ag (encS63 zS63)) (encS63 zS63) 8 (by kernel_rfl) (by kernel_rfl) (by kernel_rfl) (by kernel_rfl) (by first | rfl | kernel_rfl) ?_)
 intro a2 w hS
 refine EL.of (EO.storeBox (os' := Ass.box 63 a2 (encS63 zS63) :: Ass.box 58 d2 (cellsS58 c6 (c7, c8)) :: Ass.box 63 a6 (encS63 b6) :: Ass.box 58 a5 (cellsS58 c0 (c1, c2)) :: Ass.box 63 c3 (encS63 b7) :: Ass.box 58 a3 (cellsS58 a4 (b3, b4)) :: Ass.box 58 b9 (cellsS58 a7 (a9, b0)) :: os) hS 1 rfl 58 0 (ag (cellsS58 c6 (c7, c8))) (cellsS58 c6 (c7, c8)) (by kernel_rfl) (by kernel_rfl) (by kernel_rfl) (by kernel_rfl) (by kernel_rfl) (by kernel_rfl) rfl rfl ?_)
 intro w hS
 refine EL.of (EO.storeBox (os' := Ass.box 63 a2 (encS63 b8) :: Ass.box 58 d2 (cellsS58 c6 (c7, c8)) :: Ass.box 63 a6 (encS63 b6) :: Ass.box 58 a5 (cellsS58 c0 (c1, c2)) :: Ass.box 63 c3 (encS63 b7) :: Ass.box 58 a3 (cellsS58 a4 (b3, b4)) :: Ass.box 58 b9 (cellsS58 a7 (a9, b0)) :: os) hS 0 rfl 63 0 (ag (encS63 b8)) (encS63 b8) (by kernel_rfl) (by kernel_rfl) (by kernel_rfl) (by kernel_rfl) (by kernel_rfl) (by kernel_rfl) rfl rfl ?_)
 intro w hS
 refine EL.done (by kernel_rfl) ?_
 refine EQ.code ?_
 refine EW.sq (by kernel_rfl) ?_
 refine EW.rg (by kernel_rfl) ?_
 refine EL.of (EO.Y (YO.loadBox hS 6 rfl 58 0 12 (ag (cellsS58 a7 (a9, b0))) 34 (by kernel_rfl) (by kernel_rfl) (by kernel_rfl) (by kernel_rfl)) ?_)
 have hS : St B _ (Ass.box 63 a2 (encS63 b8) :: Ass.box 58 d2 (cellsS58 c6 (c7, c8)) :: Ass.box 63 a6 (encS63 b6) :: Ass.box 58 a5 (cellsS58 c0 (c1, c2)) :: Ass.box 63 c3 (encS63 b7) :: Ass.box 58 a3 (cellsS58 a4 (b3, b4)) :: Ass.box 58 b9 (cellsS58 a7 (a9, b0)) :: os) (Ro.sl (Kd.int .i32) a9 b0 a7.f3 :: Ro.sl (Kd.int .i32) c7 c8 c6.f3 :: Ro.sl (Kd.slice kS32) none 0 ([] : List (List S32)) :: Ro.sl (Kd.int .i32) c1 c2 c0.f3 :: Ro.sl (Kd.int .i32) b3 b4 a4.f3 :: Ro.sl (Kd.slice kS32) (some ⟨c4, 0, none⟩) 1 ([b5] : List (List S32)) :: rs) := hS.re [] [] rfl (sub_cons 1 rfl (sub_cons 0 rfl (sub_tail (sub_tail (sub_self)))))
 obtain ⟨a8, g6, H⟩ := b1_out H
 have hq := task_Child.calls g6 hS
 refine EL.of (EO.callD 34 [ag (cellsS58 a7 (a9, b0)), ib 9, ia 1, ib 5, ia 1] _ 35 (by kernel_rfl) (by kernel_rfl) (by kernel_rfl) hq ?_)
 rintro v w ⟨c9, d0, rfl, hS⟩
 refine EL.of (EO.alloc hS 58 (ag (cellsS58 zS58 (none, 0))) (cellsS58 zS58 (none, 0)) 9 (by kernel_rfl) (by kernel_rfl) (by kernel_rfl) (by kernel_rfl) (by first | rfl | kernel_rfl) ?_)
 intro a1 w hS
 refine EL.of (EO.storeBox (os' := Ass.box 58 a1 (cellsS58 a8 (c9, d0)) :: Ass.box 63 a2 (encS63 b8) :: Ass.box 58 d2 (cellsS58 c6 (c7, c8)) :: Ass.box 63 a6 (encS63 b6) :: Ass.box 58 a5 (cellsS58 c0 (c1, c2)) :: Ass.box 63 c3 (encS63 b7) :: Ass.box 58 a3 (cellsS58 a4 (b3, b4)) :: Ass.box 58 b9 (cellsS58 a7 (a9, b0)) :: os) hS 0 rfl 58 0 (ag (cellsS58 a8 (c9, d0))) (cellsS58 a8 (c9, d0)) (by kernel_rfl) (by kernel_rfl) (by kernel_rfl) (by kernel_rfl) (by kernel_rfl) (by kernel_rfl) rfl rfl ?_)
 intro w hS
 refine EL.done (by kernel_rfl) ?_
 refine EQ.code ?_
 refine EW.sq (by kernel_rfl) ?_
 refine EW.rg (by kernel_rfl) ?_
 refine EL.of (EO.Y (YO.loadBox hS 6 rfl 58 0 12 (ag (cellsS58 a4 (b3, b4))) 36 (by kernel_rfl) (by kernel_rfl) (by kernel_rfl) (by kernel_rfl)) ?_)
 obtain ⟨d5, g0, H⟩ := lt_out H
 refine EL.of (EO.lit hS (Kd.int .i32) 21 54 2 #[(0, ib 6), (1, ib 7)] [ib 6, ib 7] d5 37 (by kernel_rfl) (by kernel_rfl) (by kernel_rfl) (fun _ => (by kernel_rfl)) (by rw [g0]; rfl) (by kernel_rfl) (fun w G hr => (by rw [g0]; exact ⟨[ib 6], [ib 7], rfl, rfl, ⟨[ib 7], [], rfl, rfl, rfl⟩⟩)) ?_)
 intro f8 w hS
 have hS := St.fr hS 0 rfl
 have hS : St B _ (Ass.box 58 a1 (cellsS58 a8 (c9, d0)) :: Ass.box 63 a2 (encS63 b8) :: Ass.box 58 d2 (cellsS58 c6 (c7, c8)) :: Ass.box 63 a6 (encS63 b6) :: Ass.box 58 a5 (cellsS58 c0 (c1, c2)) :: Ass.box 63 c3 (encS63 b7) :: Ass.box 58 a3 (cellsS58 a4 (b3, b4)) :: Ass.box 58 b9 (cellsS58 a7 (a9, b0)) :: os) (Ro.sl (Kd.int .i32) b3 b4 a4.f3 :: Ro.sl (Kd.int .i32) (some ⟨f8, 0, none⟩) 2 d5 :: Ro.sl (Kd.int .i32) c9 d0 a8.f3 :: Ro.sl (Kd.int .i32) a9 b0 a7.f3 :: Ro.sl (Kd.int .i32) c7 c8 c6.f3 :: Ro.sl (Kd.slice kS32) none 0 ([] : List (List S32)) :: Ro.sl (Kd.int .i32) c1 c2 c0.f3 :: Ro.sl (Kd.slice kS32) (some ⟨c4, 0, none⟩) 1 ([b5] : List (List S32)) :: rs) := hS.re [] [] rfl (sub_cons 6 rfl (sub_cons 0 rfl (sub_cons 1 rfl (sub_cons 2 rfl (sub_cons 3 rfl (sub_cons 4 rfl (sub_cons 5 rfl (sub_tail (sub_tail (sub_tail (sub_tail (sub_tail (sub_tail (sub_tail (sub_self)))))))))))))))
 obtain ⟨c5, g7, H⟩ := b1_out H
 have hq := task_Drop.calls g7 hS
 refine EL.of (EO.callD 31 [ag (cellsS58 a4 (b3, b4)), ia 1, sv (some ⟨f8, 0, none⟩) 2 d5] _ 38 (by kernel_rfl) (by kernel_rfl) (by kernel_rfl) hq ?_)
 rintro v w ⟨d3, d4, rfl, hS⟩
 refine EL.of (EO.alloc hS 58 (ag (cellsS58 zS58 (none, 0))) (cellsS58 zS58 (none, 0)) 10 (by kernel_rfl) (by kernel_rfl) (by kernel_rfl) (by kernel_rfl) (by first | rfl | kernel_rfl) ?_)
 intro a0 w hS
 refine EL.of (EO.storeBox (os' := Ass.box 58 a0 (cellsS58 c5 (d3, d4)) :: Ass.box 58 a1 (cellsS58 a8 (c9, d0)) :: Ass.box 63 a2 (encS63 b8) :: Ass.box 58 d2 (cellsS58 c6 (c7, c8)) :: Ass.box 63 a6 (encS63 b6) :: Ass.box 58 a5 (cellsS58 c0 (c1, c2)) :: Ass.box 63 c3 (encS63 b7) :: Ass.box 58 a3 (cellsS58 a4 (b3, b4)) :: Ass.box 58 b9 (cellsS58 a7 (a9, b0)) :: os) hS 0 rfl 58 0 (ag (cellsS58 c5 (d3, d4))) (cellsS58 c5 (d3, d4)) (by kernel_rfl) (by kernel_rfl) (by kernel_rfl) (by kernel_rfl) (by kernel_rfl) (by kernel_rfl) rfl rfl ?_)
 intro w hS
 refine EL.done (by kernel_rfl) ?_
 refine EQ.code ?_
 refine EW.sq (by kernel_rfl) ?_
 refine EW.rg (by kernel_rfl) ?_
 refine EL.quick 1 [3, 5, 6, 8, 9, 10, 39] [(3, pt a3 0), (5, pt a5 0), (6, pt a6 0), (8, pt a2 0), (9, pt a1 0), (10, pt a0 0), (39, pt c3 0)] (by kernel_rfl) ?_
 refine EL.of (EO.Y (YO.loadBox hS 6 rfl 3 0 1 (ia b7.f0) 40 (by kernel_rfl) (by kernel_rfl) (by kernel_rfl) (by kernel_rfl)) ?_)
 refine EL.quick 2 [3, 5, 6, 8, 9, 10, 42] [(3, pt a3 0), (5, pt a5 0), (6, pt a6 0), (8, pt a2 0), (9, pt a1 0), (10, pt a0 0), (42, .bool (decide (b7.f0 = 1)))] (by kernel_rfl) ?_
 by_cases d7 : b7.f0 = 1
 ·rw [if_pos d7] at H
  refine EL.keep [3, 5, 6, 8, 9, 10, 42] [(3, pt a3 0), (5, pt a5 0), (6, pt a6 0), (8, pt a2 0), (9, pt a1 0), (10, pt a0 0), (42, .bool (decide (b7.f0 = 1)))] (by kernel_rfl) ?_
  refine EL.as' [(3, pt a3 0), (5, pt a5 0), (6, pt a6 0), (8, pt a2 0), (9, pt a1 0), (10, pt a0 0), (42, .bool (true))] (by simp only [cellsS58, encS63, dec_t d7, Bool.not_true, Bool.not_false]) ?_
  refine EL.quick 1 [3, 5, 6, 8, 9, 10, 42, 43] [(3, pt a3 0), (5, pt a5 0), (6, pt a6 0), (8, pt a2 0), (9, pt a1 0), (10, pt a0 0), (42, .bool (true)), (43, pt a3 3)] (by kernel_rfl) ?_
  refine EL.of (EO.Y (YO.loadBox hS 7 rfl 54 3 1 (sv b3 b4 a4.f3) 44 (by kernel_rfl) (by kernel_rfl) (by kernel_rfl) (by kernel_rfl)) ?_)
  refine EL.quick 4 [3, 5, 6, 8, 9, 10, 48] [(3, pt a3 0), (5, pt a5 0), (6, pt a6 0), (8, pt a2 0), (9, pt a1 0), (10, pt a0 0), (48, .bool (decide ((a4.f3.length : Int) = 1)))] (by kernel_rfl) ?_
  by_cases d8 : (a4.f3.length : Int) = 1
  ·rw [if_pos d8] at H
   refine EL.keep [3, 5, 6, 8, 9, 10, 48] [(3, pt a3 0), (5, pt a5 0), (6, pt a6 0), (8, pt a2 0), (9, pt a1 0), (10, pt a0 0), (48, .bool (decide ((a4.f3.length : Int) = 1)))] (by kernel_rfl) ?_
   refine EL.as' [(3, pt a3 0), (5, pt a5 0), (6, pt a6 0), (8, pt a2 0), (9, pt a1 0), (10, pt a0 0), (48, .bool (true))] (by simp only [cellsS58, encS63, dec_t d8, Bool.not_true, Bool.not_false]) ?_
   refine EL.quick 1 [3, 5, 6, 8, 9, 10, 48, 49] [(3, pt a3 0), (5, pt a5 0), (6, pt a6 0), (8, pt a2 0), (9, pt a1 0), (10, pt a0 0), (48, .bool (true)), (49, pt a3 2)] (by kernel_rfl) ?_
   refine EL.of (EO.Y (YO.loadBox hS 7 rfl 3 2 1 (ia a4.f2) 50 (by kernel_rfl) (by kernel_rfl) (by kernel_rfl) (by kernel_rfl)) ?_)
   refine EL.quick 3 [3, 5, 6, 8, 9, 10, 53] [(3, pt a3 0), (5, pt a5 0), (6, pt a6 0), (8, pt a2 0), (9, pt a1 0), (10, pt a0 0), (53, .bool (decide (a4.f2 = 1)))] (by kernel_rfl) ?_
   by_cases d9 : a4.f2 = 1
   ·rw [if_pos d9] at H
    refine EL.keep [3, 5, 6, 8, 9, 10, 53] [(3, pt a3 0), (5, pt a5 0), (6, pt a6 0), (8, pt a2 0), (9, pt a1 0), (10, pt a0 0), (53, .bool (decide (a4.f2 = 1)))] (by kernel_rfl) ?_
    refine EL.as' [(3, pt a3 0), (5, pt a5 0), (6, pt a6 0), (8, pt a2 0), (9, pt a1 0), (10, pt a0 0), (53, .bool (true))] (by simp only [cellsS58, encS63, dec_t d9, Bool.not_true, Bool.not_false]) ?_
    refine EL.quick 2 [3, 5, 6, 8, 9, 10, 53, 55] [(3, pt a3 0), (5, pt a5 0), (6, pt a6 0), (8, pt a2 0), (9, pt a1 0), (10, pt a0 0), (53, .bool (true)), (55, pt a3 4)] (by kernel_rfl) ?_
    refine EL.of (EO.Y (YO.loadBox hS 7 rfl 21 4 1 (ib a4.f4.f0) 56 (by kernel_rfl) (by kernel_rfl) (by kernel_rfl) (by kernel_rfl)) ?_)
    refine EL.quick 3 [3, 5, 6, 8, 9, 10, 59] [(3, pt a3 0), (5, pt a5 0), (6, pt a6 0), (8, pt a2 0), (9, pt a1 0), (10, pt a0 0), (59, .bool (decide (a4.f4.f0 = 3)))] (by kernel_rfl) ?_
    by_cases e0 : a4.f4.f0 = 3
    ·rw [if_pos e0] at H
     refine EL.keep [3, 5, 6, 8, 9, 10, 59] [(3, pt a3 0), (5, pt a5 0), (6, pt a6 0), (8, pt a2 0), (9, pt a1 0), (10, pt a0 0), (59, .bool (decide (a4.f4.f0 = 3)))] (by kernel_rfl) ?_
     refine EL.as' [(3, pt a3 0), (5, pt a5 0), (6, pt a6 0), (8, pt a2 0), (9, pt a1 0), (10, pt a0 0), (59, .bool (true))] (by simp only [cellsS58, encS63, dec_t e0, Bool.not_true, Bool.not_false]) ?_
     refine EL.quick 1 [3, 5, 6, 8, 9, 10, 59, 60] [(3, pt a3 0), (5, pt a5 0), (6, pt a6 0), (8, pt a2 0), (9, pt a1 0), (10, pt a0 0), (59, .bool (true)), (60, pt a6 0)] (by kernel_rfl) ?_
     refine EL.of (EO.Y (YO.loadBox hS 4 rfl 3 0 1 (ia b6.f0) 61 (by kernel_rfl) (by kernel_rfl) (by kernel_rfl) (by kernel_rfl)) ?_)
     refine EL.quick 3 [3, 5, 6, 8, 9, 10, 64] [(3, pt a3 0), (5, pt a5 0), (6, pt a6 0), (8, pt a2 0), (9, pt a1 0), (10, pt a0 0), (64, .bool (decide (b6.f0 = 2)))] (by kernel_rfl) ?_
     by_cases e1 : b6.f0 = 2
     ·rw [if_pos e1] at H
      refine EL.keep [3, 5, 6, 8, 9, 10, 64] [(3, pt a3 0), (5, pt a5 0), (6, pt a6 0), (8, pt a2 0), (9, pt a1 0), (10, pt a0 0), (64, .bool (decide (b6.f0 = 2)))] (by kernel_rfl) ?_
      refine EL.as' [(3, pt a3 0), (5, pt a5 0), (6, pt a6 0), (8, pt a2 0), (9, pt a1 0), (10, pt a0 0), (64, .bool (true))] (by simp only [cellsS58, encS63, dec_t e1, Bool.not_true, Bool.not_false]) ?_
      refine EL.quick 1 [3, 5, 8, 9, 10, 64, 65] [(3, pt a3 0), (5, pt a5 0), (8, pt a2 0), (9, pt a1 0), (10, pt a0 0), (64, .bool (true)), (65, pt a6 1)] (by kernel_rfl) ?_
      refine EL.of (EO.Y (YO.loadBox hS 4 rfl 21 1 1 (ib b6.f1) 66 (by kernel_rfl) (by kernel_rfl) (by kernel_rfl) (by kernel_rfl)) ?_)
      refine EL.quick 3 [3, 5, 8, 9, 10, 69] [(3, pt a3 0), (5, pt a5 0), (8, pt a2 0), (9, pt a1 0), (10, pt a0 0), (69, .bool (decide (b6.f1 = 4)))] (by kernel_rfl) ?_
      by_cases e2 : b6.f1 = 4
      ·rw [if_pos e2] at H
       refine EL.keep [3, 5, 8, 9, 10, 69] [(3, pt a3 0), (5, pt a5 0), (8, pt a2 0), (9, pt a1 0), (10, pt a0 0), (69, .bool (decide (b6.f1 = 4)))] (by kernel_rfl) ?_
       refine EL.as' [(3, pt a3 0), (5, pt a5 0), (8, pt a2 0), (9, pt a1 0), (10, pt a0 0), (69, .bool (true))] (by simp only [cellsS58, encS63, dec_t e2, Bool.not_true, Bool.not_false]) ?_
       refine EL.of (EO.Y (YO.loadBox hS 7 rfl 58 0 12 (ag (cellsS58 a4 (b3, b4))) 70 (by kernel_rfl) (by kernel_rfl) (by kernel_rfl) (by kernel_rfl)) ?_)
       refine EL.of (EO.Y (YO.loadBox hS 5 rfl 58 0 12 (ag (cellsS58 c0 (c1, c2))) 71 (by kernel_rfl) (by kernel_rfl) (by kernel_rfl) (by kernel_rfl)) ?_)
       have hS : St B _ (Ass.box 58 a0 (cellsS58 c5 (d3, d4)) :: Ass.box 58 a1 (cellsS58 a8 (c9, d0)) :: Ass.box 63 a2 (encS63 b8) :: Ass.box 58 d2 (cellsS58 c6 (c7, c8)) :: Ass.box 63 a6 (encS63 b6) :: Ass.box 58 a5 (cellsS58 c0 (c1, c2)) :: Ass.box 63 c3 (encS63 b7) :: Ass.box 58 a3 (cellsS58 a4 (b3, b4)) :: Ass.box 58 b9 (cellsS58 a7 (a9, b0)) :: os) (Ro.sl (Kd.int .i32) b3 b4 a4.f3 :: Ro.sl (Kd.int .i32) c1 c2 c0.f3 :: Ro.sl (Kd.int .i32) d3 d4 c5.f3 :: Ro.sl (Kd.int .i32) (some ⟨f8, 0, none⟩) 2 d5 :: Ro.sl (Kd.int .i32) c9 d0 a8.f3 :: Ro.sl (Kd.int .i32) a9 b0 a7.f3 :: Ro.sl (Kd.int .i32) c7 c8 c6.f3 :: Ro.sl (Kd.slice kS32) none 0 ([] : List (List S32)) :: Ro.sl (Kd.slice kS32) (some ⟨c4, 0, none⟩) 1 ([b5] : List (List S32)) :: rs) := hS.re [] [] rfl (sub_cons 1 rfl (sub_cons 7 rfl (sub_cons 0 rfl (sub_cons 2 rfl (sub_cons 3 rfl (sub_cons 4 rfl (sub_cons 5 rfl (sub_cons 6 rfl (sub_tail (sub_tail (sub_tail (sub_tail (sub_tail (sub_tail (sub_tail (sub_tail (sub_self)))))))))))))))))
       obtain ⟨d6, g8, H⟩ := b1_out H
       have hq := task_Same.calls g8 hS
       refine EL.of (EO.callD 33 [ag (cellsS58 a4 (b3, b4)), ag (cellsS58 c0 (c1, c2))] _ 72 (by kernel_rfl) (by kernel_rfl) (by kernel_rfl) hq ?_)
       rintro v w ⟨rfl, hS⟩
       refine EL.quick 2 [8, 9, 10, 74] [(8, pt a2 0), (9, pt a1 0), (10, pt a0 0), (74, .bool (d6))] (by kernel_rfl) ?_
       by_cases e3 : d6 = true
       ·rw [if_pos e3] at H
        refine EL.keep [8, 9, 10, 74] [(8, pt a2 0), (9, pt a1 0), (10, pt a0 0), (74, .bool (d6))] (by kernel_rfl) ?_
        refine EL.as' [(8, pt a2 0), (9, pt a1 0), (10, pt a0 0), (74, .bool (true))] (by simp only [cellsS58, encS63, e3, Bool.not_true, Bool.not_false]) ?_
        refine EL.quick 1 [8, 9, 10, 74, 75] [(8, pt a2 0), (9, pt a1 0), (10, pt a0 0), (74, .bool (true)), (75, pt a2 0)] (by kernel_rfl) ?_
        refine EL.of (EO.Y (YO.loadBox hS 2 rfl 3 0 1 (ia b8.f0) 76 (by kernel_rfl) (by kernel_rfl) (by kernel_rfl) (by kernel_rfl)) ?_)
        refine EL.quick 3 [8, 9, 10, 79] [(8, pt a2 0), (9, pt a1 0), (10, pt a0 0), (79, .bool (decide (b8.f0 = 3)))] (by kernel_rfl) ?_
        by_cases e4 : b8.f0 = 3
        ·rw [if_pos e4] at H
         refine EL.keep [8, 9, 10, 79] [(8, pt a2 0), (9, pt a1 0), (10, pt a0 0), (79, .bool (decide (b8.f0 = 3)))] (by kernel_rfl) ?_
         refine EL.as' [(8, pt a2 0), (9, pt a1 0), (10, pt a0 0), (79, .bool (true))] (by simp only [cellsS58, encS63, dec_t e4, Bool.not_true, Bool.not_false]) ?_
         refine EL.quick 1 [9, 10, 79, 80] [(9, pt a1 0), (10, pt a0 0), (79, .bool (true)), (80, pt a2 2)] (by kernel_rfl) ?_
         refine EL.of (EO.Y (YO.loadBox hS 2 rfl 33 2 1 (ia b8.f2) 81 (by kernel_rfl) (by kernel_rfl) (by kernel_rfl) (by kernel_rfl)) ?_)
         refine EL.quick 3 [9, 10, 84] [(9, pt a1 0), (10, pt a0 0), (84, .bool (decide (b8.f2 = 24)))] (by kernel_rfl) ?_
         by_cases e5 : b8.f2 = 24
         ·rw [if_pos e5] at H
          refine EL.keep [9, 10, 84] [(9, pt a1 0), (10, pt a0 0), (84, .bool (decide (b8.f2 = 24)))] (by kernel_rfl) ?_
          refine EL.as' [(9, pt a1 0), (10, pt a0 0), (84, .bool (true))] (by simp only [cellsS58, encS63, dec_t e5, Bool.not_true, Bool.not_false]) ?_
          refine EL.quick 1 [9, 10, 84, 85] [(9, pt a1 0), (10, pt a0 0), (84, .bool (true)), (85, pt a1 0)] (by kernel_rfl) ?_
          refine EL.of (EO.Y (YO.loadBox hS 1 rfl 21 0 1 (ib a8.f0) 86 (by kernel_rfl) (by kernel_rfl) (by kernel_rfl) (by kernel_rfl)) ?_)
          refine EL.quick 3 [9, 10, 89] [(9, pt a1 0), (10, pt a0 0), (89, .bool (decide (a8.f0 = 9)))] (by kernel_rfl) ?_
          by_cases e6 : a8.f0 = 9
          ·rw [if_pos e6] at H
           refine EL.keep [9, 10, 89] [(9, pt a1 0), (10, pt a0 0), (89, .bool (decide (a8.f0 = 9)))] (by kernel_rfl) ?_
           refine EL.as' [(9, pt a1 0), (10, pt a0 0), (89, .bool (true))] (by simp only [cellsS58, encS63, dec_t e6, Bool.not_true, Bool.not_false]) ?_
           refine EL.quick 1 [9, 10, 89, 90] [(9, pt a1 0), (10, pt a0 0), (89, .bool (true)), (90, pt a1 8)] (by kernel_rfl) ?_
           refine EL.of (EO.Y (YO.loadBox hS 1 rfl 3 8 1 (ia a8.f5) 91 (by kernel_rfl) (by kernel_rfl) (by kernel_rfl) (by kernel_rfl)) ?_)
           refine EL.quick 3 [9, 10, 94] [(9, pt a1 0), (10, pt a0 0), (94, .bool (decide (a8.f5 = 1)))] (by kernel_rfl) ?_
           by_cases e7 : a8.f5 = 1
           ·rw [if_pos e7] at H
            refine EL.keep [9, 10, 94] [(9, pt a1 0), (10, pt a0 0), (94, .bool (decide (a8.f5 = 1)))] (by kernel_rfl) ?_
            refine EL.as' [(9, pt a1 0), (10, pt a0 0), (94, .bool (true))] (by simp only [cellsS58, encS63, dec_t e7, Bool.not_true, Bool.not_false]) ?_
            refine EL.quick 1 [9, 10, 94, 95] [(9, pt a1 0), (10, pt a0 0), (94, .bool (true)), (95, pt a1 9)] (by kernel_rfl) ?_
            refine EL.of (EO.Y (YO.loadBox hS 1 rfl 3 9 1 (ia a8.f6) 96 (by kernel_rfl) (by kernel_rfl) (by kernel_rfl) (by kernel_rfl)) ?_)
            refine EL.quick 3 [9, 10, 99] [(9, pt a1 0), (10, pt a0 0), (99, .bool (decide (a8.f6 = 1)))] (by kernel_rfl) ?_
            by_cases e8 : a8.f6 = 1
            ·rw [if_pos e8] at H
             refine EL.keep [9, 10, 99] [(9, pt a1 0), (10, pt a0 0), (99, .bool (decide (a8.f6 = 1)))] (by kernel_rfl) ?_
             refine EL.as' [(9, pt a1 0), (10, pt a0 0), (99, .bool (true))] (by simp only [cellsS58, encS63, dec_t e8, Bool.not_true, Bool.not_false]) ?_
             refine EL.quick 2 [10, 99, 101] [(10, pt a0 0), (99, .bool (true)), (101, pt a1 4)] (by kernel_rfl) ?_
             refine EL.of (EO.Y (YO.loadBox hS 1 rfl 21 4 1 (ib a8.f4.f0) 102 (by kernel_rfl) (by kernel_rfl) (by kernel_rfl) (by kernel_rfl)) ?_)
             refine EL.quick 3 [10, 105] [(10, pt a0 0), (105, .bool (decide (a8.f4.f0 = 5)))] (by kernel_rfl) ?_
             by_cases e9 : a8.f4.f0 = 5
             ·rw [if_pos e9] at H
              refine EL.keep [10, 105] [(10, pt a0 0), (105, .bool (decide (a8.f4.f0 = 5)))] (by kernel_rfl) ?_
              refine EL.as' [(10, pt a0 0), (105, .bool (true))] (by simp only [cellsS58, encS63, dec_t e9, Bool.not_true, Bool.not_false]) ?_
              refine EL.quick 1 [10, 105, 106] [(10, pt a0 0), (105, .bool (true)), (106, pt a0 3)] (by kernel_rfl) ?_
              refine EL.of (EO.Y (YO.loadBox hS 0 rfl 54 3 1 (sv d3 d4 c5.f3) 107 (by kernel_rfl) (by kernel_rfl) (by kernel_rfl) (by kernel_rfl)) ?_)
              refine EL.quick 4 [10, 111] [(10, pt a0 0), (111, .bool (decide ((c5.f3.length : Int) = 2)))] (by kernel_rfl) ?_
              by_cases f7 : (c5.f3.length : Int) = 2
              ·rw [if_pos f7] at H
               refine EL.keep [10, 111] [(10, pt a0 0), (111, .bool (decide ((c5.f3.length : Int) = 2)))] (by kernel_rfl) ?_
               refine EL.as' [(10, pt a0 0), (111, .bool (true))] (by simp only [cellsS58, encS63, dec_t f7, Bool.not_true, Bool.not_false]) ?_
               refine EL.quick 1 [111, 112] [(111, .bool (true)), (112, pt a0 2)] (by kernel_rfl) ?_
               refine EL.of (EO.Y (YO.loadBox hS 0 rfl 3 2 1 (ia c5.f2) 113 (by kernel_rfl) (by kernel_rfl) (by kernel_rfl) (by kernel_rfl)) ?_)
               refine EL.quick 3 [0] [(0, .bool (decide (c5.f2 = 2)))] (by kernel_rfl) ?_
               refine EL.done (by kernel_rfl) ?_
               refine EQ.code ?_
               refine EW.ret (by kernel_rfl) ?_
               obtain rfl := Option.some.inj H
               exact EQ.leave (.bool (decide (c5.f2 = 2))) (by kernel_rfl) ⟨_, rfl, rfl, (hS.re [] [0, 0, 0, 0, 0, 0, 0, 0, 0] rfl (sub_tail (sub_tail (sub_tail (sub_tail (sub_tail (sub_tail (sub_tail (sub_tail (sub_tail (sub_self)))))))))))⟩
              rw [if_neg f7] at H
              refine EL.keep [10, 111] [(10, pt a0 0), (111, .bool (decide ((c5.f3.length : Int) = 2)))] (by kernel_rfl) ?_
              refine EL.as' [(10, pt a0 0), (111, .bool (false))] (by simp only [cellsS58, encS63, dec_f f7, Bool.not_true, Bool.not_false]) ?_
              refine EL.quick 5 [0] [(0, .bool (false))] (by kernel_rfl) ?_
              refine EL.done (by kernel_rfl) ?_
              refine EQ.code ?_
              refine EW.ret (by kernel_rfl) ?_
              obtain rfl := Option.some.inj H
              exact EQ.leave (.bool (false)) (by kernel_rfl) ⟨_, rfl, rfl, (hS.re [] [0, 0, 0, 0, 0, 0, 0, 0, 0] rfl (sub_tail (sub_tail (sub_tail (sub_tail (sub_tail (sub_tail (sub_tail (sub_tail (sub_tail (sub_self)))))))))))⟩
             rw [if_neg e9] at H
             refine EL.keep [10, 105] [(10, pt a0 0), (105, .bool (decide (a8.f4.f0 = 5)))] (by kernel_rfl) ?_
             refine EL.as' [(10, pt a0 0), (105, .bool (false))] (by simp only [cellsS58, encS63, dec_f e9, Bool.not_true, Bool.not_false]) ?_
             refine EL.quick 11 [0] [(0, .bool (false))] (by kernel_rfl) ?_
             refine EL.done (by kernel_rfl) ?_
             refine EQ.code ?_
             refine EW.ret (by kernel_rfl) ?_
             obtain rfl := Option.some.inj H
             exact EQ.leave (.bool (false)) (by kernel_rfl) ⟨_, rfl, rfl, (hS.re [] [0, 0, 0, 0, 0, 0, 0, 0, 0] rfl (sub_tail (sub_tail (sub_tail (sub_tail (sub_tail (sub_tail (sub_tail (sub_tail (sub_tail (sub_self)))))))))))⟩
            rw [if_neg e8] at H
            refine EL.keep [9, 10, 99] [(9, pt a1 0), (10, pt a0 0), (99, .bool (decide (a8.f6 = 1)))] (by kernel_rfl) ?_
            refine EL.as' [(9, pt a1 0), (10, pt a0 0), (99, .bool (false))] (by simp only [cellsS58, encS63, dec_f e8, Bool.not_true, Bool.not_false]) ?_
            refine EL.quick 17 [0] [(0, .bool (false))] (by kernel_rfl) ?_
            refine EL.done (by kernel_rfl) ?_
            refine EQ.code ?_
            refine EW.ret (by kernel_rfl) ?_
            obtain rfl := Option.some.inj H
            exact EQ.leave (.bool (false)) (by kernel_rfl) ⟨_, rfl, rfl, (hS.re [] [0, 0, 0, 0, 0, 0, 0, 0, 0] rfl (sub_tail (sub_tail (sub_tail (sub_tail (sub_tail (sub_tail (sub_tail (sub_tail (sub_tail (sub_self)))))))))))⟩
           rw [if_neg e7] at H
           refine EL.keep [9, 10, 94] [(9, pt a1 0), (10, pt a0 0), (94, .bool (decide (a8.f5 = 1)))] (by kernel_rfl) ?_
           refine EL.as' [(9, pt a1 0), (10, pt a0 0), (94, .bool (false))] (by simp only [cellsS58, encS63, dec_f e7, Bool.not_true, Bool.not_false]) ?_
           refine EL.quick 22 [0] [(0, .bool (false))] (by kernel_rfl) ?_
           refine EL.done (by kernel_rfl) ?_
           refine EQ.code ?_
           refine EW.ret (by kernel_rfl) ?_
           obtain rfl := Option.some.inj H
           exact EQ.leave (.bool (false)) (by kernel_rfl) ⟨_, rfl, rfl, (hS.re [] [0, 0, 0, 0, 0, 0, 0, 0, 0] rfl (sub_tail (sub_tail (sub_tail (sub_tail (sub_tail (sub_tail (sub_tail (sub_tail (sub_tail (sub_self)))))))))))⟩
          rw [if_neg e6] at H
          refine EL.keep [9, 10, 89] [(9, pt a1 0), (10, pt a0 0), (89, .bool (decide (a8.f0 = 9)))] (by kernel_rfl) ?_
          refine EL.as' [(9, pt a1 0), (10, pt a0 0), (89, .bool (false))] (by simp only [cellsS58, encS63, dec_f e6, Bool.not_true, Bool.not_false]) ?_
          refine EL.quick 27 [0] [(0, .bool (false))] (by kernel_rfl) ?_
          refine EL.done (by kernel_rfl) ?_
          refine EQ.code ?_
          refine EW.ret (by kernel_rfl) ?_
          obtain rfl := Option.some.inj H
          exact EQ.leave (.bool (false)) (by kernel_rfl) ⟨_, rfl, rfl, (hS.re [] [0, 0, 0, 0, 0, 0, 0, 0, 0] rfl (sub_tail (sub_tail (sub_tail (sub_tail (sub_tail (sub_tail (sub_tail (sub_tail (sub_tail (sub_self)))))))))))⟩
         rw [if_neg e5] at H
         refine EL.keep [9, 10, 84] [(9, pt a1 0), (10, pt a0 0), (84, .bool (decide (b8.f2 = 24)))] (by kernel_rfl) ?_
         refine EL.as' [(9, pt a1 0), (10, pt a0 0), (84, .bool (false))] (by simp only [cellsS58, encS63, dec_f e5, Bool.not_true, Bool.not_false]) ?_
         refine EL.quick 32 [0] [(0, .bool (false))] (by kernel_rfl) ?_
         refine EL.done (by kernel_rfl) ?_
         refine EQ.code ?_
         refine EW.ret (by kernel_rfl) ?_
         obtain rfl := Option.some.inj H
         exact EQ.leave (.bool (false)) (by kernel_rfl) ⟨_, rfl, rfl, (hS.re [] [0, 0, 0, 0, 0, 0, 0, 0, 0] rfl (sub_tail (sub_tail (sub_tail (sub_tail (sub_tail (sub_tail (sub_tail (sub_tail (sub_tail (sub_self)))))))))))⟩
        rw [if_neg e4] at H
        refine EL.keep [8, 9, 10, 79] [(8, pt a2 0), (9, pt a1 0), (10, pt a0 0), (79, .bool (decide (b8.f0 = 3)))] (by kernel_rfl) ?_
        refine EL.as' [(8, pt a2 0), (9, pt a1 0), (10, pt a0 0), (79, .bool (false))] (by simp only [cellsS58, encS63, dec_f e4, Bool.not_true, Bool.not_false]) ?_
        refine EL.quick 37 [0] [(0, .bool (false))] (by kernel_rfl) ?_
        refine EL.done (by kernel_rfl) ?_
        refine EQ.code ?_
        refine EW.ret (by kernel_rfl) ?_
        obtain rfl := Option.some.inj H
        exact EQ.leave (.bool (false)) (by kernel_rfl) ⟨_, rfl, rfl, (hS.re [] [0, 0, 0, 0, 0, 0, 0, 0, 0] rfl (sub_tail (sub_tail (sub_tail (sub_tail (sub_tail (sub_tail (sub_tail (sub_tail (sub_tail (sub_self)))))))))))⟩
       rw [if_neg e3] at H
       refine EL.keep [8, 9, 10, 74] [(8, pt a2 0), (9, pt a1 0), (10, pt a0 0), (74, .bool (d6))] (by kernel_rfl) ?_
       refine EL.as' [(8, pt a2 0), (9, pt a1 0), (10, pt a0 0), (74, .bool (false))] (by simp only [cellsS58, encS63, (Bool.eq_false_iff.2 e3), Bool.not_true, Bool.not_false]) ?_
       refine EL.quick 42 [0] [(0, .bool (false))] (by kernel_rfl) ?_
       refine EL.done (by kernel_rfl) ?_
       refine EQ.code ?_
       refine EW.ret (by kernel_rfl) ?_
       obtain rfl := Option.some.inj H
       exact EQ.leave (.bool (false)) (by kernel_rfl) ⟨_, rfl, rfl, (hS.re [] [0, 0, 0, 0, 0, 0, 0, 0, 0] rfl (sub_tail (sub_tail (sub_tail (sub_tail (sub_tail (sub_tail (sub_tail (sub_tail (sub_tail (sub_self)))))))))))⟩
      rw [if_neg e2] at H
      refine EL.keep [3, 5, 8, 9, 10, 69] [(3, pt a3 0), (5, pt a5 0), (8, pt a2 0), (9, pt a1 0), (10, pt a0 0), (69, .bool (decide (b6.f1 = 4)))] (by kernel_rfl) ?_
      refine EL.as' [(3, pt a3 0), (5, pt a5 0), (8, pt a2 0), (9, pt a1 0), (10, pt a0 0), (69, .bool (false))] (by simp only [cellsS58, encS63, dec_f e2, Bool.not_true, Bool.not_false]) ?_
      refine EL.quick 47 [0] [(0, .bool (false))] (by kernel_rfl) ?_
      refine EL.done (by kernel_rfl) ?_
      refine EQ.code ?_
      refine EW.ret (by kernel_rfl) ?_
      obtain rfl := Option.some.inj H
      exact EQ.leave (.bool (false)) (by kernel_rfl) ⟨_, rfl, rfl, (hS.re [] [0, 0, 0, 0, 0, 0, 0, 0, 0] rfl (sub_tail (sub_tail (sub_tail (sub_tail (sub_tail (sub_tail (sub_tail (sub_tail (sub_tail (sub_self)))))))))))⟩
     rw [if_neg e1] at H
     refine EL.keep [3, 5, 6, 8, 9, 10, 64] [(3, pt a3 0), (5, pt a5 0), (6, pt a6 0), (8, pt a2 0), (9, pt a1 0), (10, pt a0 0), (64, .bool (decide (b6.f0 = 2)))] (by kernel_rfl) ?_
     refine EL.as' [(3, pt a3 0), (5, pt a5 0), (6, pt a6 0), (8, pt a2 0), (9, pt a1 0), (10, pt a0 0), (64, .bool (false))] (by simp only [cellsS58, encS63, dec_f e1, Bool.not_true, Bool.not_false]) ?_
     refine EL.quick 52 [0] [(0, .bool (false))] (by kernel_rfl) ?_
     refine EL.done (by kernel_rfl) ?_
     refine EQ.code ?_
     refine EW.ret (by kernel_rfl) ?_
     obtain rfl := Option.some.inj H
     exact EQ.leave (.bool (false)) (by kernel_rfl) ⟨_, rfl, rfl, (hS.re [] [0, 0, 0, 0, 0, 0, 0, 0, 0] rfl (sub_tail (sub_tail (sub_tail (sub_tail (sub_tail (sub_tail (sub_tail (sub_tail (sub_tail (sub_self)))))))))))⟩
    rw [if_neg e0] at H
    refine EL.keep [3, 5, 6, 8, 9, 10, 59] [(3, pt a3 0), (5, pt a5 0), (6, pt a6 0), (8, pt a2 0), (9, pt a1 0), (10, pt a0 0), (59, .bool (decide (a4.f4.f0 = 3)))] (by kernel_rfl) ?_
    refine EL.as' [(3, pt a3 0), (5, pt a5 0), (6, pt a6 0), (8, pt a2 0), (9, pt a1 0), (10, pt a0 0), (59, .bool (false))] (by simp only [cellsS58, encS63, dec_f e0, Bool.not_true, Bool.not_false]) ?_
    refine EL.quick 57 [0] [(0, .bool (false))] (by kernel_rfl) ?_
    refine EL.done (by kernel_rfl) ?_
    refine EQ.code ?_
    refine EW.ret (by kernel_rfl) ?_
    obtain rfl := Option.some.inj H
    exact EQ.leave (.bool (false)) (by kernel_rfl) ⟨_, rfl, rfl, (hS.re [] [0, 0, 0, 0, 0, 0, 0, 0, 0] rfl (sub_tail (sub_tail (sub_tail (sub_tail (sub_tail (sub_tail (sub_tail (sub_tail (sub_tail (sub_self)))))))))))⟩
   rw [if_neg d9] at H
   refine EL.keep [3, 5, 6, 8, 9, 10, 53] [(3, pt a3 0), (5, pt a5 0), (6, pt a6 0), (8, pt a2 0), (9, pt a1 0), (10, pt a0 0), (53, .bool (decide (a4.f2 = 1)))] (by kernel_rfl) ?_
   refine EL.as' [(3, pt a3 0), (5, pt a5 0), (6, pt a6 0), (8, pt a2 0), (9, pt a1 0), (10, pt a0 0), (53, .bool (false))] (by simp only [cellsS58, encS63, dec_f d9, Bool.not_true, Bool.not_false]) ?_
   refine EL.quick 63 [0] [(0, .bool (false))] (by kernel_rfl) ?_
   refine EL.done (by kernel_rfl) ?_
   refine EQ.code ?_
   refine EW.ret (by kernel_rfl) ?_
   obtain rfl := Option.some.inj H
   exact EQ.leave (.bool (false)) (by kernel_rfl) ⟨_, rfl, rfl, (hS.re [] [0, 0, 0, 0, 0, 0, 0, 0, 0] rfl (sub_tail (sub_tail (sub_tail (sub_tail (sub_tail (sub_tail (sub_tail (sub_tail (sub_tail (sub_self)))))))))))⟩
  rw [if_neg d8] at H
  refine EL.keep [3, 5, 6, 8, 9, 10, 48] [(3, pt a3 0), (5, pt a5 0), (6, pt a6 0), (8, pt a2 0), (9, pt a1 0), (10, pt a0 0), (48, .bool (decide ((a4.f3.length : Int) = 1)))] (by kernel_rfl) ?_
  refine EL.as' [(3, pt a3 0), (5, pt a5 0), (6, pt a6 0), (8, pt a2 0), (9, pt a1 0), (10, pt a0 0), (48, .bool (false))] (by simp only [cellsS58, encS63, dec_f d8, Bool.not_true, Bool.not_false]) ?_
  refine EL.quick 68 [0] [(0, .bool (false))] (by kernel_rfl) ?_
  refine EL.done (by kernel_rfl) ?_
  refine EQ.code ?_
  refine EW.ret (by kernel_rfl) ?_
  obtain rfl := Option.some.inj H
  exact EQ.leave (.bool (false)) (by kernel_rfl) ⟨_, rfl, rfl, (hS.re [] [0, 0, 0, 0, 0, 0, 0, 0, 0] rfl (sub_tail (sub_tail (sub_tail (sub_tail (sub_tail (sub_tail (sub_tail (sub_tail (sub_tail (sub_self)))))))))))⟩
 rw [if_neg d7] at H
 refine EL.keep [3, 5, 6, 8, 9, 10, 42] [(3, pt a3 0), (5, pt a5 0), (6, pt a6 0), (8, pt a2 0), (9, pt a1 0), (10, pt a0 0), (42, .bool (decide (b7.f0 = 1)))] (by kernel_rfl) ?_
 refine EL.as' [(3, pt a3 0), (5, pt a5 0), (6, pt a6 0), (8, pt a2 0), (9, pt a1 0), (10, pt a0 0), (42, .bool (false))] (by simp only [cellsS58, encS63, dec_f d7, Bool.not_true, Bool.not_false]) ?_
 refine EL.quick 74 [0] [(0, .bool (false))] (by kernel_rfl) ?_
 refine EL.done (by kernel_rfl) ?_
 refine EQ.code ?_
 refine EW.ret (by kernel_rfl) ?_
 obtain rfl := Option.some.inj H
 exact EQ.leave (.bool (false)) (by kernel_rfl) ⟨_, rfl, rfl, (hS.re [] [0, 0, 0, 0, 0, 0, 0, 0, 0] rfl (sub_tail (sub_tail (sub_tail (sub_tail (sub_tail (sub_tail (sub_tail (sub_tail (sub_tail (sub_self)))))))))))⟩

end Go.Proofs.Ytlcnkngpankkpaa.G
