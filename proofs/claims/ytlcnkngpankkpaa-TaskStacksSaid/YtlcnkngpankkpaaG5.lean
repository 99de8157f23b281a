import Derived.Test.YtlcnkngpankkpaaProg
import Derived.Test.YtlcnkngpankkpaaFwShort
import Derived.Test.YtlcnkngpankkpaaFwOpen
import Derived.Test.YtlcnkngpankkpaaG0
import Derived.Test.YtlcnkngpankkpaaG1
import Derived.Test.YtlcnkngpankkpaaG2
import Derived.Test.YtlcnkngpankkpaaG4
namespace Go.Proofs.Ytlcnkngpankkpaa.G
open Go Go.Fw Go.RowKit Go.Proofs
set_option linter.unusedVariables false
set_option linter.unusedSimpArgs false

/-! ### confidant/confidantlaw10.TaskStacks: function 10 -/
def confidantlaw10_TaskStacks.l0 (K : Nat) (l7 : List Int) (a2 : S58) (e4 : Option Bool) : Nat → Int → Option Bool
 | 0, _ => none
 | n + 1, b9 => if b9 < (l7.length : Int) then (if 0 ≤ b9 then (if b9 < (a2.f3.length : Int) then (if (a2.f3.getD b9.toNat 0) = (l7.getD b9.toNat 0) then (confidantlaw10_TaskStacks.l0 K l7 a2 e4 n (IntKind.i64.wrap (b9 + 1))) else (some false)) else none) else none) else (e4)
def confidantlaw10_TaskStacks.f (K : Nat) (l7 : List Int) (a10 : Int) (a11 : Int) (a12 : Int) : Option Bool := b1 (confidantlaw10_known.f K) fun (f7 : Bool) => (if f7 = true then (if (l7.length : Int) > 20 then (some true) else (lt ([4, 5, 6, 8, 9, 2, 3, 13, 1, 14] : List Int) fun b6 => (if 0 ≤ (Int.tmod a12 10) then (if (Int.tmod a12 10) < (b6.length : Int) then (if (([] : List Int).length + l7.length) * 4 ≤ 140737488355328 then (lt (([] : List Int) ++ l7) fun e5 => (lt ([a10, a11] : List Int) fun c2 => (if (e5.length + c2.length) * 4 ≤ 140737488355328 then (lt (e5 ++ c2) fun a3 => (lt ([(⟨(b6.getD (Int.tmod a12 10).toNat 0), 0⟩ : S32)] : List S32) fun c5 => (b2 (task_Step.f K ({zS58 with f3 := a3, f5 := 3} : S58) ([c5] : List (List S32))) fun (c3 : S63) (a2 : S58) => (lt (fun (f1 : Bool) => (if f1 = true then (some false) else (lt (lt ([IntKind.i32.wrap (a10 + a11)] : List Int) fun a4 => (lt ([IntKind.i32.wrap (a10 - a11)] : List Int) fun a5 => (lt ([IntKind.i32.wrap (a10 * a11)] : List Int) fun a6 => (b1 (confidantref9_Truth.f K (decide (a10 < a11))) fun (f8 : Int) => (lt ([f8] : List Int) fun a7 => (b1 (confidantref9_Truth.f K (decide (a10 = a11))) fun (f9 : Int) => (lt ([f9] : List Int) fun a8 => (lt ([a10] : List Int) fun a9 => (lt ([a10, a11, a11] : List Int) fun b0 => (lt ([a10] : List Int) fun b3 => (lt ([a10, a11, 0] : List Int) fun b4 => (lt ([a10, a11, 3] : List Int) fun b5 => (if (Int.tmod a12 10) < (([a4, a5, a6, a7, a8, a9, b0, b3, b4, b5] : List (List Int)).length : Int) then (if 0 ≤ (l7.length : Int) then (if (l7.length : Int) ≤ (a2.f3.length : Int) then (lt (a2.f3.drop ((l7.length : Int).toNat)) fun e8 => (b1 (confidantref9_SameInts.f K e8 (([a4, a5, a6, a7, a8, a9, b0, b3, b4, b5] : List (List Int)).getD (Int.tmod a12 10).toNat [])) fun (e9 : Bool) => (if e9 = true then (some (decide ((a3.length : Int) = (IntKind.i64.wrap ((l7.length : Int) + 2))))) else (some false)))) else none) else none) else none))))))))))))) fun e4 => (confidantlaw10_TaskStacks.l0 K l7 a2 e4 K 0)))) fun f6 => (if c3.f0 = 1 then (if a2.f2 = 1 then (f6 (decide ((a2.f3.length : Int) < (l7.length : Int)))) else (f6 true)) else (f6 true)))))) else none))) else none) else none) else none))) else (some false))
set_option maxRecDepth 100000 in
theorem confidantlaw10_TaskStacks.calls {K : Nat} {l7 : List Int} {a10 : Int} {a11 : Int} {a12 : Int} {A8 : Option Addr} {C9 : Nat} {g0 : Bool} {B w : World} {os : List Ass} {rs : List Ro} (H : confidantlaw10_TaskStacks.f K l7 a10 a11 a12 = some g0) (hS : St B w (os) (Ro.sl (Kd.int .i32) A8 C9 l7 :: rs)) :
  Calls Try.prog 10 [sv A8 C9 l7, ib a10, ib a11, ig a12].toArray w (fun en w' => ∃ v, en = .returned v ∧ v = .bool (g0) ∧ St B w' (os) (Ro.sl (Kd.int .i32) A8 C9 l7 :: rs)) := by
 unfold confidantlaw10_TaskStacks.f at H
 refine calls_of_EW (args := [sv A8 C9 l7, ib a10, ib a11, ig a12]) (c := Cd10) 130 Try.func10 (by kernel_rfl) (by kernel_rfl) (by kernel_rfl) ?_
 refine EW.sq (by kernel_rfl) ?_
 refine EW.rg (by kernel_rfl) ?_
 refine EL.quick 1 [0, 1, 2, 3] [(0, sv A8 C9 l7), (1, ib a10), (2, ib a11), (3, ig a12)] (by kernel_rfl) ?_
 refine EL.done (by kernel_rfl) ?_
 refine EQ.code ?_
 refine EW.sq (by kernel_rfl) ?_
 refine EW.sq (by kernel_rfl) ?_
 refine EW.rg (by kernel_rfl) ?_
 obtain ⟨f7, m1, H⟩ := b1_out H
 have hq := confidantlaw10_known.calls m1 hS
 refine EL.of (EO.callD 25 [] _ 15 (by kernel_rfl) (by kernel_rfl) (by kernel_rfl) hq ?_)
 rintro v w ⟨rfl, hS⟩
 refine EL.quick 1 [0, 1, 2, 3, 16] [(0, sv A8 C9 l7), (1, ib a10), (2, ib a11), (3, ig a12), (16, .bool (!(f7)))] (by kernel_rfl) ?_
 refine EL.done (by kernel_rfl) ?_
 refine EQ.code ?_
 refine EW.cdQ (b := !(f7)) (f7 = true) (false) (by kernel_rfl) (by kernel_rfl) ⟨fun h => (by rw [h] <;> rfl), fun h => (by rw [Bool.eq_false_iff.2 h] <;> rfl)⟩ (fun g9 => ?_) (fun g9 => ?_)
 ·rw [if_pos g9] at H
  refine EW.skip (by kernel_rfl) ?_
  refine EQ.code ?_
  refine EW.sq (by kernel_rfl) ?_
  refine EW.sq (by kernel_rfl) ?_
  refine EW.rg (by kernel_rfl) ?_
  refine EL.quick 3 [0, 1, 2, 3, 19] [(0, sv A8 C9 l7), (1, ib a10), (2, ib a11), (3, ig a12), (19, .bool (decide ((l7.length : Int) > 20)))] (by kernel_rfl) ?_
  refine EL.done (by kernel_rfl) ?_
  refine EQ.code ?_
  refine EW.cdP ((l7.length : Int) > 20) (by kernel_rfl) (by kernel_rfl) (fun i0 => ?_) (fun i0 => ?_)
  ·rw [if_pos i0] at H
   refine EW.sq (by kernel_rfl) ?_
   refine EW.rg (by kernel_rfl) ?_
   refine EL.quick 1 [8] [(8, .bool (true))] (by kernel_rfl) ?_
   refine EL.done (by kernel_rfl) ?_
   refine EQ.code ?_
   refine EW.ret (by kernel_rfl) ?_
   refine EQ.ret ?_
   obtain rfl := Option.some.inj H
   exact EQ.leave (.bool (true)) (by kernel_rfl) ⟨_, rfl, rfl, (hS.re [] [] rfl (sub_self))⟩
  rw [if_neg i0] at H
  refine EW.skip (by kernel_rfl) ?_
  refine EQ.code ?_
  refine EW.sq (by kernel_rfl) ?_
  refine EW.rg (by kernel_rfl) ?_
  obtain ⟨b6, i6, H⟩ := lt_out H
  refine EL.of (EO.lit hS (Kd.int .i64) 3 39 10 #[(0, ia 4), (1, ia 5), (2, ia 6), (3, ia 8), (4, ia 9), (5, ia 2), (6, ia 3), (7, ia 13), (8, ia 1), (9, ia 14)] [ia 4, ia 5, ia 6, ia 8, ia 9, ia 2, ia 3, ia 13, ia 1, ia 14] b6 20 (by kernel_rfl) (by kernel_rfl) (by kernel_rfl) (fun _ => (by kernel_rfl)) (by rw [i6]; rfl) (by kernel_rfl) (fun w G hr => (by rw [i6]; exact ⟨[ia 4], [ia 5, ia 6, ia 8, ia 9, ia 2, ia 3, ia 13, ia 1, ia 14], rfl, rfl, ⟨[ia 5], [ia 6, ia 8, ia 9, ia 2, ia 3, ia 13, ia 1, ia 14], rfl, rfl, ⟨[ia 6], [ia 8, ia 9, ia 2, ia 3, ia 13, ia 1, ia 14], rfl, rfl, ⟨[ia 8], [ia 9, ia 2, ia 3, ia 13, ia 1, ia 14], rfl, rfl, ⟨[ia 9], [ia 2, ia 3, ia 13, ia 1, ia 14], rfl, rfl, ⟨[ia 2], [ia 3, ia 13, ia 1, ia 14], rfl, rfl, ⟨[ia 3], [ia 13, ia 1, ia 14], rfl, rfl, ⟨[ia 13], [ia 1, ia 14], rfl, rfl, ⟨[ia 1], [ia 14], rfl, rfl, ⟨[ia 14], [], rfl, rfl, rfl⟩⟩⟩⟩⟩⟩⟩⟩⟩⟩)) ?_)
  intro c4 w hS
  refine EL.quick 2 [0, 1, 2, 3, 20, 22] [(0, sv A8 C9 l7), (1, ib a10), (2, ib a11), (3, ig a12), (20, sv (some ⟨c4, 0, none⟩) 10 b6), (22, ig (Int.tmod a12 10))] (by kernel_rfl) ?_
  obtain ⟨g3, H⟩ := ite_in H
  obtain ⟨i4, H⟩ := ite_in H
  refine EL.of (EO.Y (YO.idx 39 1 ⟨c4, 0, none⟩ b6.length 10 .u8 (Int.tmod a12 10) 23 (by kernel_rfl) (by kernel_rfl) (by kernel_rfl) (by kernel_rfl) g3 i4) ?_)
  refine EL.of (EO.Y (YO.loadEl hS (Kd.int .i64) ⟨c4, 0, none⟩ 10 b6 (Rd.own 0 3 rfl) 0 (encI .i64) encI_of (Int.tmod a12 10) g3 i4 3 1 0 1 rfl (ia (b6.getD (Int.tmod a12 10).toNat 0)) 24 (by kernel_rfl) (by kernel_rfl) (by kernel_rfl) (by kernel_rfl)) ?_)
  refine EL.quick 1 [0, 1, 2, 3, 9] [(0, sv A8 C9 l7), (1, ib a10), (2, ib a11), (3, ig a12), (9, ia (b6.getD (Int.tmod a12 10).toNat 0))] (by kernel_rfl) ?_
  refine EL.done (by kernel_rfl) ?_
  refine EQ.code ?_
  refine EW.sq (by kernel_rfl) ?_
  refine EW.rg (by kernel_rfl) ?_
  refine EL.quick 1 [0, 1, 2, 3, 9, 25] [(0, sv A8 C9 l7), (1, ib a10), (2, ib a11), (3, ig a12), (9, ia (b6.getD (Int.tmod a12 10).toNat 0)), (25, sv A8 C9 l7)] (by kernel_rfl) ?_
  have hS := St.nilO hS 21 (Kd.int .i32)
  obtain ⟨j9, H⟩ := ite_in H
  obtain ⟨e5, m8, H⟩ := lt_out H
  refine EL.of (EO.append hS 54 54 21 4 0 (Kd.int .i32) none 0 ([] : List Int) rfl A8 C9 l7 (Rd.ro 0 rfl) e5 m8 (fun g1 g2 => Ass.own 21 (Kd.int .i32) g1 g2 e5 :: Ass.own 3 (Kd.int .i64) (some ⟨c4, 0, none⟩) 10 b6 :: os) 26 (by kernel_rfl) (by kernel_rfl) (by kernel_rfl) (by kernel_rfl) j9 (fun _ _ => rfl) ?_)
  intro g1 g2 w hS
  refine EL.quick 2 [0, 1, 2, 3, 9, 26, 27, 28] [(0, sv A8 C9 l7), (1, ib a10), (2, ib a11), (3, ig a12), (9, ia (b6.getD (Int.tmod a12 10).toNat 0)), (26, sv g1 g2 e5), (27, ib a10), (28, ib a11)] (by kernel_rfl) ?_
  obtain ⟨c2, i7, H⟩ := lt_out H
  refine EL.of (EO.lit hS (Kd.int .i32) 21 54 2 #[(0, ib a10), (1, ib a11)] [ib a10, ib a11] c2 29 (by kernel_rfl) (by kernel_rfl) (by kernel_rfl) (fun _ => (by kernel_rfl)) (by rw [i7]; rfl) (by kernel_rfl) (fun w G hr => (by rw [i7]; exact ⟨[ib a10], [ib a11], rfl, rfl, ⟨[ib a11], [], rfl, rfl, rfl⟩⟩)) ?_)
  intro c6 w hS
  obtain ⟨m0, H⟩ := ite_in H
  obtain ⟨a3, m9, H⟩ := lt_out H
  refine EL.of (EO.append hS 54 54 21 4 1 (Kd.int .i32) g1 g2 e5 rfl (some ⟨c6, 0, none⟩) 2 c2 (Rd.own 0 21 rfl) a3 m9 (fun b7 b8 => Ass.own 21 (Kd.int .i32) (some ⟨c6, 0, none⟩) 2 c2 :: Ass.own 21 (Kd.int .i32) b7 b8 a3 :: Ass.own 3 (Kd.int .i64) (some ⟨c4, 0, none⟩) 10 b6 :: os) 30 (by kernel_rfl) (by kernel_rfl) (by kernel_rfl) (by kernel_rfl) m0 (fun _ _ => rfl) ?_)
  intro b7 b8 w hS
  refine EL.quick 1 [0, 1, 2, 3, 9, 31] [(0, sv A8 C9 l7), (1, ib a10), (2, ib a11), (3, ig a12), (9, ia (b6.getD (Int.tmod a12 10).toNat 0)), (31, ag (cellsS58 {zS58 with f3 := a3, f5 := 3} (b7, b8)))] (by kernel_rfl) ?_
  refine EL.of (EO.alloc hS 58 (ag (cellsS58 zS58 (none, 0))) (cellsS58 zS58 (none, 0)) 10 (by kernel_rfl) (by kernel_rfl) (by kernel_rfl) (by kernel_rfl) (by first | rfl | kernel_rfl) ?_)
  intro a0 w hS
  refine EL.of (EO.storeBox (os' := Ass.box 58 a0 (cellsS58 {zS58 with f3 := a3, f5 := 3} (b7, b8)) :: Ass.own 21 (Kd.int .i32) (some ⟨c6, 0, none⟩) 2 c2 :: Ass.own 21 (Kd.int .i32) b7 b8 a3 :: Ass.own 3 (Kd.int .i64) (some ⟨c4, 0, none⟩) 10 b6 :: os) hS 0 rfl 58 0 (ag (cellsS58 {zS58 with f3 := a3, f5 := 3} (b7, b8))) (cellsS58 {zS58 with f3 := a3, f5 := 3} (b7, b8)) (by kernel_rfl) (by kernel_rfl) (by kernel_rfl) (by kernel_rfl) (by kernel_rfl) (by kernel_rfl) rfl rfl ?_)
  intro w hS
  refine EL.done (by kernel_rfl) ?_
  refine EQ.code ?_
  refine EW.sq (by kernel_rfl) ?_
  refine EW.rg (by kernel_rfl) ?_
  refine EL.of (EO.Y (YO.loadBox hS 0 rfl 58 0 12 (ag (cellsS58 {zS58 with f3 := a3, f5 := 3} (b7, b8))) 33 (by kernel_rfl) (by kernel_rfl) (by kernel_rfl) (by kernel_rfl)) ?_)
  refine EL.quick 2 [0, 1, 2, 3, 10, 33, 35] [(0, sv A8 C9 l7), (1, ib a10), (2, ib a11), (3, ig a12), (10, pt a0 0), (33, ag (cellsS58 {zS58 with f3 := a3, f5 := 3} (b7, b8))), (35, ag [ia (b6.getD (Int.tmod a12 10).toNat 0), ib 0])] (by kernel_rfl) ?_
  obtain ⟨c5, i8, H⟩ := lt_out H
  refine EL.of (EO.lit hS kS32 32 29 1 #[(0, ag [ia (b6.getD (Int.tmod a12 10).toNat 0), ib 0])] [ia (b6.getD (Int.tmod a12 10).toNat 0), ib 0] c5 36 (by kernel_rfl) (by kernel_rfl) (by kernel_rfl) (fun _ => (by kernel_rfl)) (by rw [i8]; rfl) (by kernel_rfl) (fun w G hr => (by rw [i8]; exact ⟨[ia (b6.getD (Int.tmod a12 10).toNat 0), ib 0], [], rfl, ⟨[ia (b6.getD (Int.tmod a12 10).toNat 0)], [ib 0], rfl, rfl, ⟨[ib 0], [], rfl, rfl, rfl⟩⟩, rfl⟩)) ?_)
  intro f4 w hS
  refine EL.of (EO.lit (xs := ([((some ⟨f4, 0, none⟩), c5.length, 1)] : List Hdr)) hS Kd.hdr 29 23 1 #[(0, sv (some ⟨f4, 0, none⟩) 1 c5)] [sv (some ⟨f4, 0, none⟩) 1 c5] 37 (by kernel_rfl) (by kernel_rfl) (by kernel_rfl) (fun _ => (by kernel_rfl)) rfl (by kernel_rfl) (fun w G hr => ⟨[sv (some ⟨f4, 0, none⟩) 1 c5], [], rfl, rfl, rfl⟩) ?_)
  intro e1 w hS
  have hS := St.fr hS 4 rfl
  have hS := St.as (os' := Ass.deep 29 32 kS32 (some ⟨e1, 0, none⟩) 1 ([c5] : List (List S32)) :: Ass.box 58 a0 (cellsS58 {zS58 with f3 := a3, f5 := 3} (b7, b8)) :: Ass.own 21 (Kd.int .i32) (some ⟨c6, 0, none⟩) 2 c2 :: Ass.own 3 (Kd.int .i64) (some ⟨c4, 0, none⟩) 10 b6 :: os) (St.fold (B := B) (os := _) (rs := _) (et := 29) (et' := 32) (K := kS32) (hs := [((some ⟨f4, 0, none⟩), c5.length, 1)]) (xs := ([c5] : List (List S32))) ⟨rfl, trivial⟩ (St.re hS [1, 1] [] rfl sub_self)) rfl
  have hS := St.frDeep hS 0 rfl
  have hS : St B _ (Ass.box 58 a0 (cellsS58 {zS58 with f3 := a3, f5 := 3} (b7, b8)) :: Ass.own 21 (Kd.int .i32) (some ⟨c6, 0, none⟩) 2 c2 :: Ass.own 3 (Kd.int .i64) (some ⟨c4, 0, none⟩) 10 b6 :: os) (Ro.sl (Kd.int .i32) b7 b8 a3 :: Ro.sl (Kd.slice kS32) (some ⟨e1, 0, none⟩) 1 ([c5] : List (List S32)) :: Ro.sl (Kd.int .i32) A8 C9 l7 :: rs) := hS.re [] [] rfl (sub_cons 1 rfl (sub_cons 0 rfl (sub_tail (sub_tail (sub_self)))))
  obtain ⟨c3, a2, m2, H⟩ := b2_out H
  have hq := task_Step.calls m2 hS
  refine EL.of (EO.callD 28 [ag (cellsS58 {zS58 with f3 := a3, f5 := 3} (b7, b8)), sv (some ⟨e1, 0, none⟩) 1 ([c5] : List (List S32))] _ 38 (by kernel_rfl) (by kernel_rfl) (by kernel_rfl) hq ?_)
  rintro v w ⟨c1, c0, rfl, hS⟩
  refine EL.quick 3 [0, 1, 2, 3, 10, 39, 40] [(0, sv A8 C9 l7), (1, ib a10), (2, ib a11), (3, ig a12), (10, pt a0 0), (39, ag (cellsS58 a2 (c1, c0))), (40, ag (encS63 c3))] (by kernel_rfl) ?_
  refine EL.of (EO.alloc hS 58 (ag (cellsS58 zS58 (none, 0))) (cellsS58 zS58 (none, 0)) 11 (by kernel_rfl) (by kernel_rfl) (by kernel_rfl) (by kernel_rfl) (by first | rfl | kernel_rfl) ?_)
  intro a1 w hS
  refine EL.of (EO.alloc hS 63 (ag (encS63 zS63)) (encS63 zS63) 12 (by kernel_rfl) (by kernel_rfl) (by kernel_rfl) (by kernel_rfl) (by first | rfl | kernel_rfl) ?_)
  intro d7 w hS
  refine EL.of (EO.storeBox (os' := Ass.box 63 d7 (encS63 zS63) :: Ass.box 58 a1 (cellsS58 a2 (c1, c0)) :: Ass.box 58 a0 (cellsS58 {zS58 with f3 := a3, f5 := 3} (b7, b8)) :: Ass.own 21 (Kd.int .i32) (some ⟨c6, 0, none⟩) 2 c2 :: Ass.own 3 (Kd.int .i64) (some ⟨c4, 0, none⟩) 10 b6 :: os) hS 1 rfl 58 0 (ag (cellsS58 a2 (c1, c0))) (cellsS58 a2 (c1, c0)) (by kernel_rfl) (by kernel_rfl) (by kernel_rfl) (by kernel_rfl) (by kernel_rfl) (by kernel_rfl) rfl rfl ?_)
  intro w hS
  refine EL.of (EO.storeBox (os' := Ass.box 63 d7 (encS63 c3) :: Ass.box 58 a1 (cellsS58 a2 (c1, c0)) :: Ass.box 58 a0 (cellsS58 {zS58 with f3 := a3, f5 := 3} (b7, b8)) :: Ass.own 21 (Kd.int .i32) (some ⟨c6, 0, none⟩) 2 c2 :: Ass.own 3 (Kd.int .i64) (some ⟨c4, 0, none⟩) 10 b6 :: os) hS 0 rfl 63 0 (ag (encS63 c3)) (encS63 c3) (by kernel_rfl) (by kernel_rfl) (by kernel_rfl) (by kernel_rfl) (by kernel_rfl) (by kernel_rfl) rfl rfl ?_)
  intro w hS
  refine EL.done (by kernel_rfl) ?_
  refine EQ.code ?_
  refine EW.sq (by kernel_rfl) ?_
  obtain ⟨f6, m6, H⟩ := lt_out H
  refine EW.ct (fun a w => ∃ f1 : Bool, Sat 130 [(0, sv A8 C9 l7), (1, ib a10), (2, ib a11), (3, ig a12), (10, pt a0 0), (11, pt a1 0), (56, .bool (f1))] a ∧ St B w (Ass.box 63 d7 (encS63 c3) :: Ass.box 58 a1 (cellsS58 a2 (c1, c0)) :: Ass.box 58 a0 (cellsS58 {zS58 with f3 := a3, f5 := 3} (b7, b8)) :: Ass.own 21 (Kd.int .i32) (some ⟨c6, 0, none⟩) 2 c2 :: Ass.own 3 (Kd.int .i64) (some ⟨c4, 0, none⟩) 10 b6 :: os) (Ro.sl (Kd.int .i32) c1 c0 a2.f3 :: Ro.sl (Kd.int .i32) b7 b8 a3 :: Ro.sl (Kd.slice kS32) (some ⟨e1, 0, none⟩) 1 ([c5] : List (List S32)) :: Ro.sl (Kd.int .i32) A8 C9 l7 :: rs) ∧ f6 f1 = some g0) (by kernel_rfl) ?_ (fun a w hI => ?_)
  ·refine EW.rg (by kernel_rfl) ?_
   refine EL.quick 1 [0, 1, 2, 3, 10, 11, 41] [(0, sv A8 C9 l7), (1, ib a10), (2, ib a11), (3, ig a12), (10, pt a0 0), (11, pt a1 0), (41, pt d7 0)] (by kernel_rfl) ?_
   refine EL.of (EO.Y (YO.loadBox hS 0 rfl 3 0 1 (ia c3.f0) 42 (by kernel_rfl) (by kernel_rfl) (by kernel_rfl) (by kernel_rfl)) ?_)
   refine EL.quick 2 [0, 1, 2, 3, 10, 11, 44] [(0, sv A8 C9 l7), (1, ib a10), (2, ib a11), (3, ig a12), (10, pt a0 0), (11, pt a1 0), (44, .bool (!(decide (c3.f0 = 1))))] (by kernel_rfl) ?_
   by_cases g4 : c3.f0 = 1
   ·rw [if_pos g4] at H
    refine EL.keep [0, 1, 2, 3, 10, 11, 44] [(0, sv A8 C9 l7), (1, ib a10), (2, ib a11), (3, ig a12), (10, pt a0 0), (11, pt a1 0), (44, .bool (!(decide (c3.f0 = 1))))] (by kernel_rfl) ?_
    refine EL.as' [(0, sv A8 C9 l7), (1, ib a10), (2, ib a11), (3, ig a12), (10, pt a0 0), (11, pt a1 0), (44, .bool (false))] (by simp only [cellsS58, encS63, dec_t g4, Bool.not_true, Bool.not_false]) ?_
    refine EL.quick 1 [0, 1, 2, 3, 10, 11, 44, 45] [(0, sv A8 C9 l7), (1, ib a10), (2, ib a11), (3, ig a12), (10, pt a0 0), (11, pt a1 0), (44, .bool (false)), (45, pt a1 2)] (by kernel_rfl) ?_
    refine EL.of (EO.Y (YO.loadBox hS 1 rfl 3 2 1 (ia a2.f2) 46 (by kernel_rfl) (by kernel_rfl) (by kernel_rfl) (by kernel_rfl)) ?_)
    refine EL.quick 3 [0, 1, 2, 3, 10, 11, 49] [(0, sv A8 C9 l7), (1, ib a10), (2, ib a11), (3, ig a12), (10, pt a0 0), (11, pt a1 0), (49, .bool (!(decide (a2.f2 = 1))))] (by kernel_rfl) ?_
    by_cases g5 : a2.f2 = 1
    ·rw [if_pos g5] at H
     refine EL.keep [0, 1, 2, 3, 10, 11, 49] [(0, sv A8 C9 l7), (1, ib a10), (2, ib a11), (3, ig a12), (10, pt a0 0), (11, pt a1 0), (49, .bool (!(decide (a2.f2 = 1))))] (by kernel_rfl) ?_
     refine EL.as' [(0, sv A8 C9 l7), (1, ib a10), (2, ib a11), (3, ig a12), (10, pt a0 0), (11, pt a1 0), (49, .bool (false))] (by simp only [cellsS58, encS63, dec_t g5, Bool.not_true, Bool.not_false]) ?_
     refine EL.quick 1 [0, 1, 2, 3, 10, 11, 49, 50] [(0, sv A8 C9 l7), (1, ib a10), (2, ib a11), (3, ig a12), (10, pt a0 0), (11, pt a1 0), (49, .bool (false)), (50, pt a1 3)] (by kernel_rfl) ?_
     refine EL.of (EO.Y (YO.loadBox hS 1 rfl 54 3 1 (sv c1 c0 a2.f3) 51 (by kernel_rfl) (by kernel_rfl) (by kernel_rfl) (by kernel_rfl)) ?_)
     refine EL.quick 5 [0, 1, 2, 3, 10, 11, 56] [(0, sv A8 C9 l7), (1, ib a10), (2, ib a11), (3, ig a12), (10, pt a0 0), (11, pt a1 0), (56, .bool (decide ((a2.f3.length : Int) < (l7.length : Int))))] (by kernel_rfl) ?_
     refine EL.done (by kernel_rfl) ?_
     refine EQ.to ?_
     refine EQ.keep [0, 1, 2, 3, 10, 11, 56] [(0, sv A8 C9 l7), (1, ib a10), (2, ib a11), (3, ig a12), (10, pt a0 0), (11, pt a1 0), (56, .bool (decide ((a2.f3.length : Int) < (l7.length : Int))))] (by kernel_rfl) ?_
     exact fun a ha => ⟨decide ((a2.f3.length : Int) < (l7.length : Int)), ha, (hS.re [4, 4, 4, 4, 4] [] rfl (sub_cons 0 rfl (sub_cons 1 rfl (sub_cons 2 rfl (sub_cons 3 rfl (sub_tail (sub_tail (sub_tail (sub_tail (sub_self)))))))))), H⟩
    rw [if_neg g5] at H
    refine EL.keep [0, 1, 2, 3, 10, 11, 49] [(0, sv A8 C9 l7), (1, ib a10), (2, ib a11), (3, ig a12), (10, pt a0 0), (11, pt a1 0), (49, .bool (!(decide (a2.f2 = 1))))] (by kernel_rfl) ?_
    refine EL.as' [(0, sv A8 C9 l7), (1, ib a10), (2, ib a11), (3, ig a12), (10, pt a0 0), (11, pt a1 0), (49, .bool (true))] (by simp only [cellsS58, encS63, dec_f g5, Bool.not_true, Bool.not_false]) ?_
    refine EL.quick 7 [0, 1, 2, 3, 10, 11, 56] [(0, sv A8 C9 l7), (1, ib a10), (2, ib a11), (3, ig a12), (10, pt a0 0), (11, pt a1 0), (56, .bool (true))] (by kernel_rfl) ?_
    refine EL.done (by kernel_rfl) ?_
    refine EQ.to ?_
    refine EQ.keep [0, 1, 2, 3, 10, 11, 56] [(0, sv A8 C9 l7), (1, ib a10), (2, ib a11), (3, ig a12), (10, pt a0 0), (11, pt a1 0), (56, .bool (true))] (by kernel_rfl) ?_
    exact fun a ha => ⟨true, ha, (hS.re [4, 4, 4, 4, 4] [] rfl (sub_cons 0 rfl (sub_cons 1 rfl (sub_cons 2 rfl (sub_cons 3 rfl (sub_tail (sub_tail (sub_tail (sub_tail (sub_self)))))))))), H⟩
   rw [if_neg g4] at H
   refine EL.keep [0, 1, 2, 3, 10, 11, 44] [(0, sv A8 C9 l7), (1, ib a10), (2, ib a11), (3, ig a12), (10, pt a0 0), (11, pt a1 0), (44, .bool (!(decide (c3.f0 = 1))))] (by kernel_rfl) ?_
   refine EL.as' [(0, sv A8 C9 l7), (1, ib a10), (2, ib a11), (3, ig a12), (10, pt a0 0), (11, pt a1 0), (44, .bool (true))] (by simp only [cellsS58, encS63, dec_f g4, Bool.not_true, Bool.not_false]) ?_
   refine EL.quick 12 [0, 1, 2, 3, 10, 11, 56] [(0, sv A8 C9 l7), (1, ib a10), (2, ib a11), (3, ig a12), (10, pt a0 0), (11, pt a1 0), (56, .bool (true))] (by kernel_rfl) ?_
   refine EL.done (by kernel_rfl) ?_
   refine EQ.to ?_
   refine EQ.keep [0, 1, 2, 3, 10, 11, 56] [(0, sv A8 C9 l7), (1, ib a10), (2, ib a11), (3, ig a12), (10, pt a0 0), (11, pt a1 0), (56, .bool (true))] (by kernel_rfl) ?_
   exact fun a ha => ⟨true, ha, (hS.re [4, 4, 4, 4, 4] [] rfl (sub_cons 0 rfl (sub_cons 1 rfl (sub_cons 2 rfl (sub_cons 3 rfl (sub_tail (sub_tail (sub_tail (sub_tail (sub_self)))))))))), H⟩
  obtain ⟨f1, ha, hS, H⟩ := hI
  rw [m6] at H
  (try dsimp only at H)
  refine EW.at ?_ a ha
  clear ha a
  refine EW.cdP' (f1) (by kernel_rfl) (by kernel_rfl) (fun i1 => ?_) (fun i1 => ?_)
  ·rw [if_pos i1] at H
   refine EW.sq (by kernel_rfl) ?_
   refine EW.rg (by kernel_rfl) ?_
   refine EL.quick 1 [8] [(8, .bool (false))] (by kernel_rfl) ?_
   refine EL.done (by kernel_rfl) ?_
   refine EQ.code ?_
   refine EW.ret (by kernel_rfl) ?_
   refine EQ.ret ?_
   obtain rfl := Option.some.inj H
   exact EQ.leave (.bool (false)) (by kernel_rfl) ⟨_, rfl, rfl, (hS.re [] [0, 0, 0, 0, 0] rfl (sub_tail (sub_tail (sub_tail (sub_self)))))⟩
  rw [if_neg i1] at H
  refine EW.skip (by kernel_rfl) ?_
  refine EQ.code ?_
  obtain ⟨e4, m7, H⟩ := lt_out H
  refine EW.ct (fun a w => Sat 130 [(0, sv A8 C9 l7), (1, ib a10), (2, ib a11), (3, ig a12), (10, pt a0 0), (11, pt a1 0)] a ∧ St B w (Ass.box 63 d7 (encS63 c3) :: Ass.box 58 a1 (cellsS58 a2 (c1, c0)) :: Ass.box 58 a0 (cellsS58 {zS58 with f3 := a3, f5 := 3} (b7, b8)) :: Ass.own 21 (Kd.int .i32) (some ⟨c6, 0, none⟩) 2 c2 :: Ass.own 3 (Kd.int .i64) (some ⟨c4, 0, none⟩) 10 b6 :: os) (Ro.sl (Kd.int .i32) c1 c0 a2.f3 :: Ro.sl (Kd.int .i32) b7 b8 a3 :: Ro.sl (Kd.slice kS32) (some ⟨e1, 0, none⟩) 1 ([c5] : List (List S32)) :: Ro.sl (Kd.int .i32) A8 C9 l7 :: rs) ∧ e4 = some g0) (by kernel_rfl) ?_ (fun a w hI => ?_)
  ·refine EW.sq (by kernel_rfl) ?_
   refine EW.rg (by kernel_rfl) ?_
   refine EL.quick 1 [0, 1, 2, 3, 10, 11, 13] [(0, sv A8 C9 l7), (1, ib a10), (2, ib a11), (3, ig a12), (10, pt a0 0), (11, pt a1 0), (13, ia 0)] (by kernel_rfl) ?_
   refine EL.done (by kernel_rfl) ?_
   refine EQ.code ?_
   refine EW.bl 0 (by kernel_rfl) ?_
   refine EW.lp (fun n a w => ∃ b9 : Int, Sat 130 [(0, sv A8 C9 l7), (1, ib a10), (2, ib a11), (3, ig a12), (10, pt a0 0), (11, pt a1 0), (13, ia b9)] a ∧ St B w (Ass.box 63 d7 (encS63 c3) :: Ass.box 58 a1 (cellsS58 a2 (c1, c0)) :: Ass.box 58 a0 (cellsS58 {zS58 with f3 := a3, f5 := 3} (b7, b8)) :: Ass.own 21 (Kd.int .i32) (some ⟨c6, 0, none⟩) 2 c2 :: Ass.own 3 (Kd.int .i64) (some ⟨c4, 0, none⟩) 10 b6 :: os) (Ro.sl (Kd.int .i32) c1 c0 a2.f3 :: Ro.sl (Kd.int .i32) b7 b8 a3 :: Ro.sl (Kd.slice kS32) (some ⟨e1, 0, none⟩) 1 ([c5] : List (List S32)) :: Ro.sl (Kd.int .i32) A8 C9 l7 :: rs) ∧ confidantlaw10_TaskStacks.l0 K l7 a2 e4 n b9 = some g0) K (by kernel_rfl) ?_ (fun n a w hI => ?_)
   ·refine EQ.keep [0, 1, 2, 3, 10, 11, 13] [(0, sv A8 C9 l7), (1, ib a10), (2, ib a11), (3, ig a12), (10, pt a0 0), (11, pt a1 0), (13, ia 0)] (by kernel_rfl) ?_
    exact fun a ha => ⟨0, ha, (hS.re [4, 4, 4, 4, 4] [] rfl (sub_cons 0 rfl (sub_cons 1 rfl (sub_cons 2 rfl (sub_cons 3 rfl (sub_tail (sub_tail (sub_tail (sub_tail (sub_self)))))))))), H⟩
   obtain ⟨b9, ha, hS, H⟩ := hI
   obtain _ | n := n
   ·simp [confidantlaw10_TaskStacks.l0] at H
   rw [confidantlaw10_TaskStacks.l0.eq_2] at H
   refine EW.at ?_ a ha
   clear ha a
   refine EW.sq (by kernel_rfl) ?_
   refine EW.sq (by kernel_rfl) ?_
   refine EW.rg (by kernel_rfl) ?_
   refine EL.quick 4 [0, 1, 2, 3, 10, 11, 13, 60] [(0, sv A8 C9 l7), (1, ib a10), (2, ib a11), (3, ig a12), (10, pt a0 0), (11, pt a1 0), (13, ia b9), (60, .bool (decide (b9 < (l7.length : Int))))] (by kernel_rfl) ?_
   refine EL.done (by kernel_rfl) ?_
   refine EQ.code ?_
   refine EW.cdP (b9 < (l7.length : Int)) (by kernel_rfl) (by kernel_rfl) (fun e6 => ?_) (fun e6 => ?_)
   ·rw [if_pos e6] at H
    refine EW.skip (by kernel_rfl) ?_
    refine EQ.code ?_
    refine EW.sq (by kernel_rfl) ?_
    refine EW.bl 1 (by kernel_rfl) ?_
    refine EW.sq (by kernel_rfl) ?_
    obtain ⟨e7, H⟩ := ite_in H
    obtain ⟨i2, H⟩ := ite_in H
    obtain ⟨e3, rfl⟩ := St.rd_some hS (Rd.ro 0 rfl) e7 i2
    obtain ⟨e0, rfl⟩ := St.rd_some hS (Rd.ro 3 rfl) e7 e6
    have hS := hS.drew
    refine EW.dr (B := B) [Ass.box 63 d7 (encS63 c3), Ass.box 58 a1 (cellsS58 a2 ((some e3), c0)), Ass.box 58 a0 (cellsS58 {zS58 with f3 := a3, f5 := 3} (b7, b8)), Ass.own 21 (Kd.int .i32) (some ⟨c6, 0, none⟩) 2 c2, Ass.own 3 (Kd.int .i64) (some ⟨c4, 0, none⟩) 10 b6] [Ro.sl (Kd.int .i32) (some e3) c0 a2.f3, Ro.sl (Kd.int .i32) b7 b8 a3, Ro.sl (Kd.slice kS32) (some ⟨e1, 0, none⟩) 1 ([c5] : List (List S32)), Ro.sl (Kd.int .i32) (some e0) C9 l7] (by kernel_rfl) (by kernel_rfl) ?_
    have hN : Region.noSelect Cd10.r.r.r.r.r.r.r.l.r.l.l.r.l.l.l.ops = true := (by kernel_rfl)
    have hF : freeAll Cd10.r.r.r.r.r.r.r.l.r.l.l.r.l.l.l.ops = true := (by kernel_rfl)
    have hC : Core B [Ass.box 63 d7 (encS63 c3), Ass.box 58 a1 (cellsS58 a2 ((some e3), c0)), Ass.box 58 a0 (cellsS58 {zS58 with f3 := a3, f5 := 3} (b7, b8)), Ass.own 21 (Kd.int .i32) (some ⟨c6, 0, none⟩) 2 c2, Ass.own 3 (Kd.int .i64) (some ⟨c4, 0, none⟩) 10 b6] [Ro.sl (Kd.int .i32) (some e3) c0 a2.f3, Ro.sl (Kd.int .i32) b7 b8 a3, Ro.sl (Kd.slice kS32) (some ⟨e1, 0, none⟩) 1 ([c5] : List (List S32)), Ro.sl (Kd.int .i32) (some e0) C9 l7] _ := ⟨_, _, hS⟩
    refine ED.quick hN hF hC [0, 2, 5, 6] [0, 1, 2, 3, 10, 11, 13, 63, 65, 68, 69] 6 [(0, sv (some e0) C9 l7), (1, ib a10), (2, ib a11), (3, ig a12), (10, pt a0 0), (11, pt a1 0), (13, ia b9), (63, pt a1 3), (65, ia b9), (68, sv (some e0) C9 l7), (69, ia b9)] (bm 10 101) (by kernel_rfl) (by kernel_rfl) ?_
    refine ED.Y hN hF hC 1 5 (bm 10 103) (by kernel_rfl) (by kernel_rfl) rfl (fun _ _ _ hS => YO.loadBox hS 1 rfl 54 3 1 (sv (some e3) c0 a2.f3) 64 (by kernel_rfl) (by kernel_rfl) (by kernel_rfl) (by kernel_rfl)) ?_
    refine ED.Y hN hF hC 3 4 (bm 10 111) (by kernel_rfl) (by kernel_rfl) rfl (fun _ _ _ hS => YO.idx 54 1 e3 a2.f3.length c0 .i64 b9 66 (by kernel_rfl) (by kernel_rfl) (by kernel_rfl) (by kernel_rfl) e7 i2) ?_
    refine ED.Y hN hF hC 4 3 (bm 10 127) (by kernel_rfl) (by kernel_rfl) rfl (fun _ _ _ hS => YO.loadEl hS (Kd.int .i32) e3 c0 a2.f3 (Rd.ro 0 rfl) 0 (encI .i32) encI_of b9 e7 i2 21 1 0 1 rfl (ib (a2.f3.getD b9.toNat 0)) 67 (by kernel_rfl) (by kernel_rfl) (by kernel_rfl) (by kernel_rfl)) ?_
    refine ED.Y hN hF hC 7 2 (bm 10 255) (by kernel_rfl) (by kernel_rfl) rfl (fun _ _ _ hS => YO.idx 54 1 e0 l7.length C9 .i64 b9 70 (by kernel_rfl) (by kernel_rfl) (by kernel_rfl) (by kernel_rfl) e7 e6) ?_
    refine ED.Y hN hF hC 8 1 (bm 10 511) (by kernel_rfl) (by kernel_rfl) rfl (fun _ _ _ hS => YO.loadEl hS (Kd.int .i32) e0 C9 l7 (Rd.ro 3 rfl) 0 (encI .i32) encI_of b9 e7 e6 21 1 0 1 rfl (ib (l7.getD b9.toNat 0)) 71 (by kernel_rfl) (by kernel_rfl) (by kernel_rfl) (by kernel_rfl)) ?_
    refine ED.quick hN hF hC [9] [0, 1, 2, 3, 10, 11, 13, 72] 0 [(0, sv (some e0) C9 l7), (1, ib a10), (2, ib a11), (3, ig a12), (10, pt a0 0), (11, pt a1 0), (13, ia b9), (72, .bool (!(decide ((a2.f3.getD b9.toNat 0) = (l7.getD b9.toNat 0)))))] (bm 10 1023) (by kernel_rfl) (by kernel_rfl) ?_
    refine ED.done (by kernel_rfl) ?_
    refine EQ.code ?_
    refine EW.cdQ (b := !(decide ((a2.f3.getD b9.toNat 0) = (l7.getD b9.toNat 0)))) ((a2.f3.getD b9.toNat 0) = (l7.getD b9.toNat 0)) (false) (by kernel_rfl) (by kernel_rfl) ⟨fun h => (by rw [decide_eq_true h] <;> rfl), fun h => (by rw [decide_eq_false h] <;> rfl)⟩ (fun i3 => ?_) (fun i3 => ?_)
    ·rw [if_pos i3] at H
     refine EW.skip (by kernel_rfl) ?_
     refine EQ.pop ?_
     refine EQ.code ?_
     refine EW.rg (by kernel_rfl) ?_
     refine EL.quick 3 [0, 1, 2, 3, 10, 11, 13] [(0, sv (some e0) C9 l7), (1, ib a10), (2, ib a11), (3, ig a12), (10, pt a0 0), (11, pt a1 0), (13, ia (IntKind.i64.wrap (b9 + 1)))] (by kernel_rfl) ?_
     refine EL.done (by kernel_rfl) ?_
     refine EQ.to ?_
     refine EQ.keep [0, 1, 2, 3, 10, 11, 13] [(0, sv (some e0) C9 l7), (1, ib a10), (2, ib a11), (3, ig a12), (10, pt a0 0), (11, pt a1 0), (13, ia (IntKind.i64.wrap (b9 + 1)))] (by kernel_rfl) ?_
     exact fun a ha => ⟨n, Nat.lt_succ_self n, IntKind.i64.wrap (b9 + 1), ha, (hS.re [4, 4, 4, 4, 4] [] rfl (sub_cons 0 rfl (sub_cons 1 rfl (sub_cons 2 rfl (sub_cons 3 rfl (sub_tail (sub_tail (sub_tail (sub_tail (sub_self)))))))))), H⟩
    rw [if_neg i3] at H
    refine EW.sq (by kernel_rfl) ?_
    refine EW.rg (by kernel_rfl) ?_
    refine EL.quick 1 [8] [(8, .bool (false))] (by kernel_rfl) ?_
    refine EL.done (by kernel_rfl) ?_
    refine EQ.code ?_
    refine EW.ret (by kernel_rfl) ?_
    refine EQ.ret ?_
    refine EQ.ret ?_
    refine EQ.ret ?_
    refine EQ.ret ?_
    refine EQ.ret ?_
    obtain rfl := Option.some.inj H
    exact EQ.leave (.bool (false)) (by kernel_rfl) ⟨_, rfl, rfl, (hS.re [] [0, 0, 0, 0, 0] rfl (sub_tail (sub_tail (sub_tail (sub_self)))))⟩
   rw [if_neg e6] at H
   refine EW.exit (id := 0) (by kernel_rfl) ?_
   refine EQ.exitCode ?_
   refine EQ.exitTo ?_
   refine EQ.exitHere ?_
   refine EQ.to ?_
   refine EQ.keep [0, 1, 2, 3, 10, 11] [(0, sv A8 C9 l7), (1, ib a10), (2, ib a11), (3, ig a12), (10, pt a0 0), (11, pt a1 0)] (by kernel_rfl) ?_
   exact fun a ha => ⟨ha, (hS.re [4, 4, 4, 4, 4] [] rfl (sub_cons 0 rfl (sub_cons 1 rfl (sub_cons 2 rfl (sub_cons 3 rfl (sub_tail (sub_tail (sub_tail (sub_tail (sub_self)))))))))), H⟩
  obtain ⟨ha, hS, H⟩ := hI
  rw [m7] at H
  (try dsimp only at H)
  refine EW.at ?_ a ha
  clear ha a
  refine EW.sq (by kernel_rfl) ?_
  refine EW.rg (by kernel_rfl) ?_
  refine EL.quick 3 [0, 1, 2, 3, 10, 11, 75] [(0, sv A8 C9 l7), (1, ib a10), (2, ib a11), (3, ig a12), (10, pt a0 0), (11, pt a1 0), (75, ib (IntKind.i32.wrap (a10 + a11)))] (by kernel_rfl) ?_
  obtain ⟨a4, i9, H⟩ := lt_out H
  refine EL.of (EO.lit hS (Kd.int .i32) 21 54 1 #[(0, ib (IntKind.i32.wrap (a10 + a11)))] [ib (IntKind.i32.wrap (a10 + a11))] a4 76 (by kernel_rfl) (by kernel_rfl) (by kernel_rfl) (fun _ => (by kernel_rfl)) (by rw [i9]; rfl) (by kernel_rfl) (fun w G hr => (by rw [i9]; exact ⟨[ib (IntKind.i32.wrap (a10 + a11))], [], rfl, rfl, rfl⟩)) ?_)
  intro c7 w hS
  refine EL.quick 3 [0, 1, 2, 3, 10, 11, 76, 79] [(0, sv A8 C9 l7), (1, ib a10), (2, ib a11), (3, ig a12), (10, pt a0 0), (11, pt a1 0), (76, sv (some ⟨c7, 0, none⟩) 1 a4), (79, ib (IntKind.i32.wrap (a10 - a11)))] (by kernel_rfl) ?_
  obtain ⟨a5, j0, H⟩ := lt_out H
  refine EL.of (EO.lit hS (Kd.int .i32) 21 54 1 #[(0, ib (IntKind.i32.wrap (a10 - a11)))] [ib (IntKind.i32.wrap (a10 - a11))] a5 80 (by kernel_rfl) (by kernel_rfl) (by kernel_rfl) (fun _ => (by kernel_rfl)) (by rw [j0]; rfl) (by kernel_rfl) (fun w G hr => (by rw [j0]; exact ⟨[ib (IntKind.i32.wrap (a10 - a11))], [], rfl, rfl, rfl⟩)) ?_)
  intro c8 w hS
  refine EL.quick 3 [0, 1, 2, 3, 10, 11, 76, 80, 83] [(0, sv A8 C9 l7), (1, ib a10), (2, ib a11), (3, ig a12), (10, pt a0 0), (11, pt a1 0), (76, sv (some ⟨c7, 0, none⟩) 1 a4), (80, sv (some ⟨c8, 0, none⟩) 1 a5), (83, ib (IntKind.i32.wrap (a10 * a11)))] (by kernel_rfl) ?_
  obtain ⟨a6, j1, H⟩ := lt_out H
  refine EL.of (EO.lit hS (Kd.int .i32) 21 54 1 #[(0, ib (IntKind.i32.wrap (a10 * a11)))] [ib (IntKind.i32.wrap (a10 * a11))] a6 84 (by kernel_rfl) (by kernel_rfl) (by kernel_rfl) (fun _ => (by kernel_rfl)) (by rw [j1]; rfl) (by kernel_rfl) (fun w G hr => (by rw [j1]; exact ⟨[ib (IntKind.i32.wrap (a10 * a11))], [], rfl, rfl, rfl⟩)) ?_)
  intro c9 w hS
  refine EL.quick 3 [0, 1, 2, 3, 10, 11, 76, 80, 84, 87] [(0, sv A8 C9 l7), (1, ib a10), (2, ib a11), (3, ig a12), (10, pt a0 0), (11, pt a1 0), (76, sv (some ⟨c7, 0, none⟩) 1 a4), (80, sv (some ⟨c8, 0, none⟩) 1 a5), (84, sv (some ⟨c9, 0, none⟩) 1 a6), (87, .bool (decide (a10 < a11)))] (by kernel_rfl) ?_
  obtain ⟨f8, m3, H⟩ := b1_out H
  have hq := confidantref9_Truth.calls m3 hS
  refine EL.of (EO.callD 38 [.bool (decide (a10 < a11))] _ 88 (by kernel_rfl) (by kernel_rfl) (by kernel_rfl) hq ?_)
  rintro v w ⟨rfl, hS⟩
  obtain ⟨a7, j2, H⟩ := lt_out H
  refine EL.of (EO.lit hS (Kd.int .i32) 21 54 1 #[(0, ib f8)] [ib f8] a7 89 (by kernel_rfl) (by kernel_rfl) (by kernel_rfl) (fun _ => (by kernel_rfl)) (by rw [j2]; rfl) (by kernel_rfl) (fun w G hr => (by rw [j2]; exact ⟨[ib f8], [], rfl, rfl, rfl⟩)) ?_)
  intro d0 w hS
  refine EL.quick 3 [0, 1, 2, 3, 10, 11, 76, 80, 84, 89, 92] [(0, sv A8 C9 l7), (1, ib a10), (2, ib a11), (3, ig a12), (10, pt a0 0), (11, pt a1 0), (76, sv (some ⟨c7, 0, none⟩) 1 a4), (80, sv (some ⟨c8, 0, none⟩) 1 a5), (84, sv (some ⟨c9, 0, none⟩) 1 a6), (89, sv (some ⟨d0, 0, none⟩) 1 a7), (92, .bool (decide (a10 = a11)))] (by kernel_rfl) ?_
  obtain ⟨f9, m4, H⟩ := b1_out H
  have hq := confidantref9_Truth.calls m4 hS
  refine EL.of (EO.callD 38 [.bool (decide (a10 = a11))] _ 93 (by kernel_rfl) (by kernel_rfl) (by kernel_rfl) hq ?_)
  rintro v w ⟨rfl, hS⟩
  obtain ⟨a8, j3, H⟩ := lt_out H
  refine EL.of (EO.lit hS (Kd.int .i32) 21 54 1 #[(0, ib f9)] [ib f9] a8 94 (by kernel_rfl) (by kernel_rfl) (by kernel_rfl) (fun _ => (by kernel_rfl)) (by rw [j3]; rfl) (by kernel_rfl) (fun w G hr => (by rw [j3]; exact ⟨[ib f9], [], rfl, rfl, rfl⟩)) ?_)
  intro d1 w hS
  refine EL.quick 1 [0, 1, 2, 3, 10, 11, 76, 80, 84, 89, 94, 95] [(0, sv A8 C9 l7), (1, ib a10), (2, ib a11), (3, ig a12), (10, pt a0 0), (11, pt a1 0), (76, sv (some ⟨c7, 0, none⟩) 1 a4), (80, sv (some ⟨c8, 0, none⟩) 1 a5), (84, sv (some ⟨c9, 0, none⟩) 1 a6), (89, sv (some ⟨d0, 0, none⟩) 1 a7), (94, sv (some ⟨d1, 0, none⟩) 1 a8), (95, ib a10)] (by kernel_rfl) ?_
  obtain ⟨a9, j4, H⟩ := lt_out H
  refine EL.of (EO.lit hS (Kd.int .i32) 21 54 1 #[(0, ib a10)] [ib a10] a9 96 (by kernel_rfl) (by kernel_rfl) (by kernel_rfl) (fun _ => (by kernel_rfl)) (by rw [j4]; rfl) (by kernel_rfl) (fun w G hr => (by rw [j4]; exact ⟨[ib a10], [], rfl, rfl, rfl⟩)) ?_)
  intro d2 w hS
  refine EL.quick 3 [0, 1, 2, 3, 10, 11, 76, 80, 84, 89, 94, 96, 97, 98, 99] [(0, sv A8 C9 l7), (1, ib a10), (2, ib a11), (3, ig a12), (10, pt a0 0), (11, pt a1 0), (76, sv (some ⟨c7, 0, none⟩) 1 a4), (80, sv (some ⟨c8, 0, none⟩) 1 a5), (84, sv (some ⟨c9, 0, none⟩) 1 a6), (89, sv (some ⟨d0, 0, none⟩) 1 a7), (94, sv (some ⟨d1, 0, none⟩) 1 a8), (96, sv (some ⟨d2, 0, none⟩) 1 a9), (97, ib a10), (98, ib a11), (99, ib a11)] (by kernel_rfl) ?_
  obtain ⟨b0, j5, H⟩ := lt_out H
  refine EL.of (EO.lit hS (Kd.int .i32) 21 54 3 #[(0, ib a10), (1, ib a11), (2, ib a11)] [ib a10, ib a11, ib a11] b0 100 (by kernel_rfl) (by kernel_rfl) (by kernel_rfl) (fun _ => (by kernel_rfl)) (by rw [j5]; rfl) (by kernel_rfl) (fun w G hr => (by rw [j5]; exact ⟨[ib a10], [ib a11, ib a11], rfl, rfl, ⟨[ib a11], [ib a11], rfl, rfl, ⟨[ib a11], [], rfl, rfl, rfl⟩⟩⟩)) ?_)
  intro d3 w hS
  refine EL.quick 1 [0, 1, 2, 3, 10, 11, 76, 80, 84, 89, 94, 96, 100, 101] [(0, sv A8 C9 l7), (1, ib a10), (2, ib a11), (3, ig a12), (10, pt a0 0), (11, pt a1 0), (76, sv (some ⟨c7, 0, none⟩) 1 a4), (80, sv (some ⟨c8, 0, none⟩) 1 a5), (84, sv (some ⟨c9, 0, none⟩) 1 a6), (89, sv (some ⟨d0, 0, none⟩) 1 a7), (94, sv (some ⟨d1, 0, none⟩) 1 a8), (96, sv (some ⟨d2, 0, none⟩) 1 a9), (100, sv (some ⟨d3, 0, none⟩) 3 b0), (101, ib a10)] (by kernel_rfl) ?_
  obtain ⟨b3, j6, H⟩ := lt_out H
  refine EL.of (EO.lit hS (Kd.int .i32) 21 54 1 #[(0, ib a10)] [ib a10] b3 102 (by kernel_rfl) (by kernel_rfl) (by kernel_rfl) (fun _ => (by kernel_rfl)) (by rw [j6]; rfl) (by kernel_rfl) (fun w G hr => (by rw [j6]; exact ⟨[ib a10], [], rfl, rfl, rfl⟩)) ?_)
  intro d4 w hS
  refine EL.quick 2 [0, 1, 2, 3, 10, 11, 76, 80, 84, 89, 94, 96, 100, 102, 103, 104] [(0, sv A8 C9 l7), (1, ib a10), (2, ib a11), (3, ig a12), (10, pt a0 0), (11, pt a1 0), (76, sv (some ⟨c7, 0, none⟩) 1 a4), (80, sv (some ⟨c8, 0, none⟩) 1 a5), (84, sv (some ⟨c9, 0, none⟩) 1 a6), (89, sv (some ⟨d0, 0, none⟩) 1 a7), (94, sv (some ⟨d1, 0, none⟩) 1 a8), (96, sv (some ⟨d2, 0, none⟩) 1 a9), (100, sv (some ⟨d3, 0, none⟩) 3 b0), (102, sv (some ⟨d4, 0, none⟩) 1 b3), (103, ib a10), (104, ib a11)] (by kernel_rfl) ?_
  obtain ⟨b4, j7, H⟩ := lt_out H
  refine EL.of (EO.lit hS (Kd.int .i32) 21 54 3 #[(0, ib a10), (1, ib a11), (2, ib 0)] [ib a10, ib a11, ib 0] b4 105 (by kernel_rfl) (by kernel_rfl) (by kernel_rfl) (fun _ => (by kernel_rfl)) (by rw [j7]; rfl) (by kernel_rfl) (fun w G hr => (by rw [j7]; exact ⟨[ib a10], [ib a11, ib 0], rfl, rfl, ⟨[ib a11], [ib 0], rfl, rfl, ⟨[ib 0], [], rfl, rfl, rfl⟩⟩⟩)) ?_)
  intro d5 w hS
  refine EL.quick 2 [0, 3, 10, 11, 76, 80, 84, 89, 94, 96, 100, 102, 105, 106, 107] [(0, sv A8 C9 l7), (3, ig a12), (10, pt a0 0), (11, pt a1 0), (76, sv (some ⟨c7, 0, none⟩) 1 a4), (80, sv (some ⟨c8, 0, none⟩) 1 a5), (84, sv (some ⟨c9, 0, none⟩) 1 a6), (89, sv (some ⟨d0, 0, none⟩) 1 a7), (94, sv (some ⟨d1, 0, none⟩) 1 a8), (96, sv (some ⟨d2, 0, none⟩) 1 a9), (100, sv (some ⟨d3, 0, none⟩) 3 b0), (102, sv (some ⟨d4, 0, none⟩) 1 b3), (105, sv (some ⟨d5, 0, none⟩) 3 b4), (106, ib a10), (107, ib a11)] (by kernel_rfl) ?_
  obtain ⟨b5, j8, H⟩ := lt_out H
  refine EL.of (EO.lit hS (Kd.int .i32) 21 54 3 #[(0, ib a10), (1, ib a11), (2, ib 3)] [ib a10, ib a11, ib 3] b5 108 (by kernel_rfl) (by kernel_rfl) (by kernel_rfl) (fun _ => (by kernel_rfl)) (by rw [j8]; rfl) (by kernel_rfl) (fun w G hr => (by rw [j8]; exact ⟨[ib a10], [ib a11, ib 3], rfl, rfl, ⟨[ib a11], [ib 3], rfl, rfl, ⟨[ib 3], [], rfl, rfl, rfl⟩⟩⟩)) ?_)
  intro d6 w hS
  refine EL.of (EO.lit (xs := ([((some ⟨c7, 0, none⟩), a4.length, 1), ((some ⟨c8, 0, none⟩), a5.length, 1), ((some ⟨c9, 0, none⟩), a6.length, 1), ((some ⟨d0, 0, none⟩), a7.length, 1), ((some ⟨d1, 0, none⟩), a8.length, 1), ((some ⟨d2, 0, none⟩), a9.length, 1), ((some ⟨d3, 0, none⟩), b0.length, 3), ((some ⟨d4, 0, none⟩), b3.length, 1), ((some ⟨d5, 0, none⟩), b4.length, 3), ((some ⟨d6, 0, none⟩), b5.length, 3)] : List Hdr)) hS Kd.hdr 54 75 10 #[(0, sv (some ⟨c7, 0, none⟩) 1 a4), (1, sv (some ⟨c8, 0, none⟩) 1 a5), (2, sv (some ⟨c9, 0, none⟩) 1 a6), (3, sv (some ⟨d0, 0, none⟩) 1 a7), (4, sv (some ⟨d1, 0, none⟩) 1 a8), (5, sv (some ⟨d2, 0, none⟩) 1 a9), (6, sv (some ⟨d3, 0, none⟩) 3 b0), (7, sv (some ⟨d4, 0, none⟩) 1 b3), (8, sv (some ⟨d5, 0, none⟩) 3 b4), (9, sv (some ⟨d6, 0, none⟩) 3 b5)] [sv (some ⟨c7, 0, none⟩) 1 a4, sv (some ⟨c8, 0, none⟩) 1 a5, sv (some ⟨c9, 0, none⟩) 1 a6, sv (some ⟨d0, 0, none⟩) 1 a7, sv (some ⟨d1, 0, none⟩) 1 a8, sv (some ⟨d2, 0, none⟩) 1 a9, sv (some ⟨d3, 0, none⟩) 3 b0, sv (some ⟨d4, 0, none⟩) 1 b3, sv (some ⟨d5, 0, none⟩) 3 b4, sv (some ⟨d6, 0, none⟩) 3 b5] 109 (by kernel_rfl) (by kernel_rfl) (by kernel_rfl) (fun _ => (by kernel_rfl)) rfl (by kernel_rfl) (fun w G hr => ⟨[sv (some ⟨c7, 0, none⟩) 1 a4], [sv (some ⟨c8, 0, none⟩) 1 a5, sv (some ⟨c9, 0, none⟩) 1 a6, sv (some ⟨d0, 0, none⟩) 1 a7, sv (some ⟨d1, 0, none⟩) 1 a8, sv (some ⟨d2, 0, none⟩) 1 a9, sv (some ⟨d3, 0, none⟩) 3 b0, sv (some ⟨d4, 0, none⟩) 1 b3, sv (some ⟨d5, 0, none⟩) 3 b4, sv (some ⟨d6, 0, none⟩) 3 b5], rfl, rfl, ⟨[sv (some ⟨c8, 0, none⟩) 1 a5], [sv (some ⟨c9, 0, none⟩) 1 a6, sv (some ⟨d0, 0, none⟩) 1 a7, sv (some ⟨d1, 0, none⟩) 1 a8, sv (some ⟨d2, 0, none⟩) 1 a9, sv (some ⟨d3, 0, none⟩) 3 b0, sv (some ⟨d4, 0, none⟩) 1 b3, sv (some ⟨d5, 0, none⟩) 3 b4, sv (some ⟨d6, 0, none⟩) 3 b5], rfl, rfl, ⟨[sv (some ⟨c9, 0, none⟩) 1 a6], [sv (some ⟨d0, 0, none⟩) 1 a7, sv (some ⟨d1, 0, none⟩) 1 a8, sv (some ⟨d2, 0, none⟩) 1 a9, sv (some ⟨d3, 0, none⟩) 3 b0, sv (some ⟨d4, 0, none⟩) 1 b3, sv (some ⟨d5, 0, none⟩) 3 b4, sv (some ⟨d6, 0, none⟩) 3 b5], rfl, rfl, ⟨[sv (some ⟨d0, 0, none⟩) 1 a7], [sv (some ⟨d1, 0, none⟩) 1 a8, sv (some ⟨d2, 0, none⟩) 1 a9, sv (some ⟨d3, 0, none⟩) 3 b0, sv (some ⟨d4, 0, none⟩) 1 b3, sv (some ⟨d5, 0, none⟩) 3 b4, sv (some ⟨d6, 0, none⟩) 3 b5], rfl, rfl, ⟨[sv (some ⟨d1, 0, none⟩) 1 a8], [sv (some ⟨d2, 0, none⟩) 1 a9, sv (some ⟨d3, 0, none⟩) 3 b0, sv (some ⟨d4, 0, none⟩) 1 b3, sv (some ⟨d5, 0, none⟩) 3 b4, sv (some ⟨d6, 0, none⟩) 3 b5], rfl, rfl, ⟨[sv (some ⟨d2, 0, none⟩) 1 a9], [sv (some ⟨d3, 0, none⟩) 3 b0, sv (some ⟨d4, 0, none⟩) 1 b3, sv (some ⟨d5, 0, none⟩) 3 b4, sv (some ⟨d6, 0, none⟩) 3 b5], rfl, rfl, ⟨[sv (some ⟨d3, 0, none⟩) 3 b0], [sv (some ⟨d4, 0, none⟩) 1 b3, sv (some ⟨d5, 0, none⟩) 3 b4, sv (some ⟨d6, 0, none⟩) 3 b5], rfl, rfl, ⟨[sv (some ⟨d4, 0, none⟩) 1 b3], [sv (some ⟨d5, 0, none⟩) 3 b4, sv (some ⟨d6, 0, none⟩) 3 b5], rfl, rfl, ⟨[sv (some ⟨d5, 0, none⟩) 3 b4], [sv (some ⟨d6, 0, none⟩) 3 b5], rfl, rfl, ⟨[sv (some ⟨d6, 0, none⟩) 3 b5], [], rfl, rfl, rfl⟩⟩⟩⟩⟩⟩⟩⟩⟩⟩) ?_)
  intro e2 w hS
  refine EL.quick 2 [0, 10, 11, 109, 111] [(0, sv A8 C9 l7), (10, pt a0 0), (11, pt a1 0), (109, sv (some ⟨e2, 0, none⟩) 10 ([a4, a5, a6, a7, a8, a9, b0, b3, b4, b5] : List (List Int))), (111, ig (Int.tmod a12 10))] (by kernel_rfl) ?_
  have hS := St.as (os' := Ass.deep 54 21 (Kd.int .i32) (some ⟨e2, 0, none⟩) 10 ([a4, a5, a6, a7, a8, a9, b0, b3, b4, b5] : List (List Int)) :: Ass.box 63 d7 (encS63 c3) :: Ass.box 58 a1 (cellsS58 a2 (c1, c0)) :: Ass.box 58 a0 (cellsS58 {zS58 with f3 := a3, f5 := 3} (b7, b8)) :: Ass.own 21 (Kd.int .i32) (some ⟨c6, 0, none⟩) 2 c2 :: Ass.own 3 (Kd.int .i64) (some ⟨c4, 0, none⟩) 10 b6 :: os) (St.fold (B := B) (os := _) (rs := _) (et := 54) (et' := 21) (K := (Kd.int .i32)) (hs := [((some ⟨c7, 0, none⟩), a4.length, 1), ((some ⟨c8, 0, none⟩), a5.length, 1), ((some ⟨c9, 0, none⟩), a6.length, 1), ((some ⟨d0, 0, none⟩), a7.length, 1), ((some ⟨d1, 0, none⟩), a8.length, 1), ((some ⟨d2, 0, none⟩), a9.length, 1), ((some ⟨d3, 0, none⟩), b0.length, 3), ((some ⟨d4, 0, none⟩), b3.length, 1), ((some ⟨d5, 0, none⟩), b4.length, 3), ((some ⟨d6, 0, none⟩), b5.length, 3)]) (xs := ([a4, a5, a6, a7, a8, a9, b0, b3, b4, b5] : List (List Int))) ⟨rfl, rfl, rfl, rfl, rfl, rfl, rfl, rfl, rfl, rfl, trivial⟩ (St.re hS [1, 2, 3, 4, 5, 6, 7, 8, 9, 10, 10] [] rfl sub_self)) rfl
  obtain ⟨i5, H⟩ := ite_in H
  refine EL.of (EO.Y (YO.idx 75 1 ⟨e2, 0, none⟩ ([a4, a5, a6, a7, a8, a9, b0, b3, b4, b5] : List (List Int)).length 10 .u8 (Int.tmod a12 10) 112 (by kernel_rfl) (by kernel_rfl) (by kernel_rfl) (by kernel_rfl) g3 i5) ?_)
  refine EL.of (EO.openEl hS 0 ⟨e2, 0, none⟩ rfl (Int.tmod a12 10) g3 i5 (fun d8 d9 => Ass.holed 54 21 (Kd.int .i32) (some ⟨e2, 0, none⟩) 10 ([a4, a5, a6, a7, a8, a9, b0, b3, b4, b5] : List (List Int)) (Int.tmod a12 10).toNat (d8, (([a4, a5, a6, a7, a8, a9, b0, b3, b4, b5] : List (List Int)).getD (Int.tmod a12 10).toNat []).length, d9) :: Ass.box 63 d7 (encS63 c3) :: Ass.box 58 a1 (cellsS58 a2 (c1, c0)) :: Ass.box 58 a0 (cellsS58 {zS58 with f3 := a3, f5 := 3} (b7, b8)) :: Ass.own 21 (Kd.int .i32) (some ⟨c6, 0, none⟩) 2 c2 :: Ass.own 3 (Kd.int .i64) (some ⟨c4, 0, none⟩) 10 b6 :: os) 54 113 (by kernel_rfl) (by kernel_rfl) (by kernel_rfl) (by kernel_rfl) (fun _ _ => rfl) ?_)
  intro d8 d9 hS
  refine EL.quick 1 [0, 10, 11, 14] [(0, sv A8 C9 l7), (10, pt a0 0), (11, pt a1 0), (14, sv d8 d9 (([a4, a5, a6, a7, a8, a9, b0, b3, b4, b5] : List (List Int)).getD (Int.tmod a12 10).toNat []))] (by kernel_rfl) ?_
  refine EL.done (by kernel_rfl) ?_
  refine EQ.code ?_
  refine EW.sq (by kernel_rfl) ?_
  refine EW.rg (by kernel_rfl) ?_
  refine EL.quick 1 [0, 10, 14, 114] [(0, sv A8 C9 l7), (10, pt a0 0), (14, sv d8 d9 (([a4, a5, a6, a7, a8, a9, b0, b3, b4, b5] : List (List Int)).getD (Int.tmod a12 10).toNat [])), (114, pt a1 3)] (by kernel_rfl) ?_
  refine EL.of (EO.Y (YO.loadBox hS 3 rfl 54 3 1 (sv c1 c0 a2.f3) 115 (by kernel_rfl) (by kernel_rfl) (by kernel_rfl) (by kernel_rfl)) ?_)
  refine EL.quick 2 [0, 10, 14, 115, 117] [(0, sv A8 C9 l7), (10, pt a0 0), (14, sv d8 d9 (([a4, a5, a6, a7, a8, a9, b0, b3, b4, b5] : List (List Int)).getD (Int.tmod a12 10).toNat [])), (115, sv c1 c0 a2.f3), (117, ia (l7.length : Int))] (by kernel_rfl) ?_
  obtain ⟨n1, H⟩ := ite_in H
  obtain ⟨n2, H⟩ := ite_in H
  obtain ⟨e8, n0, H⟩ := lt_out H
  refine EL.of (EO.sliceRo hS (Kd.int .i32) c1 c0 a2.f3 0 rfl (some (ia (l7.length : Int))) none none ((l7.length : Int).toNat) a2.f3.length c0 e8 (by rw [n0]; exact (slice_lo _ _)) 54 118 (by kernel_rfl) (by kernel_rfl) (by kernel_rfl) (by kernel_rfl) ((Int.toNat_of_nonneg (by omega)).symm) (rfl) ⟨rfl, fun h => by first | rfl | cases h⟩ (by omega) (by omega) (.inl rfl) ?_)
  intro g7 g8 hS
  refine EL.quick 1 [0, 10, 118, 119] [(0, sv A8 C9 l7), (10, pt a0 0), (118, sv g7 g8 e8), (119, sv d8 d9 (([a4, a5, a6, a7, a8, a9, b0, b3, b4, b5] : List (List Int)).getD (Int.tmod a12 10).toNat []))] (by kernel_rfl) ?_
  have hS : St B _ (Ass.own 21 (Kd.int .i32) d8 d9 (([a4, a5, a6, a7, a8, a9, b0, b3, b4, b5] : List (List Int)).getD (Int.tmod a12 10).toNat []) :: Ass.holed 54 21 (Kd.int .i32) (some ⟨e2, 0, none⟩) 10 ([a4, a5, a6, a7, a8, a9, b0, b3, b4, b5] : List (List Int)) (Int.tmod a12 10).toNat (d8, (([a4, a5, a6, a7, a8, a9, b0, b3, b4, b5] : List (List Int)).getD (Int.tmod a12 10).toNat []).length, d9) :: Ass.box 63 d7 (encS63 c3) :: Ass.box 58 a1 (cellsS58 a2 (c1, c0)) :: Ass.box 58 a0 (cellsS58 {zS58 with f3 := a3, f5 := 3} (b7, b8)) :: Ass.own 21 (Kd.int .i32) (some ⟨c6, 0, none⟩) 2 c2 :: Ass.own 3 (Kd.int .i64) (some ⟨c4, 0, none⟩) 10 b6 :: os) (Ro.sl (Kd.int .i32) g7 g8 e8 :: Ro.sl (Kd.int .i32) c1 c0 a2.f3 :: Ro.sl (Kd.int .i32) b7 b8 a3 :: Ro.sl (Kd.slice kS32) (some ⟨e1, 0, none⟩) 1 ([c5] : List (List S32)) :: Ro.sl (Kd.int .i32) A8 C9 l7 :: rs) := hS.re [0] [] rfl (sub_cons 0 rfl (sub_tail (sub_self)))
  obtain ⟨e9, m5, H⟩ := b1_out H
  have hq := confidantref9_SameInts.calls m5 hS
  refine EL.of (EO.callD 39 [sv g7 g8 e8, sv d8 d9 (([a4, a5, a6, a7, a8, a9, b0, b3, b4, b5] : List (List Int)).getD (Int.tmod a12 10).toNat [])] _ 120 (by kernel_rfl) (by kernel_rfl) (by kernel_rfl) hq ?_)
  rintro v w ⟨rfl, hS⟩
  refine EL.quick 1 [0, 10, 121] [(0, sv A8 C9 l7), (10, pt a0 0), (121, .bool (e9))] (by kernel_rfl) ?_
  by_cases g6 : e9 = true
  ·rw [if_pos g6] at H
   refine EL.keep [0, 10, 121] [(0, sv A8 C9 l7), (10, pt a0 0), (121, .bool (e9))] (by kernel_rfl) ?_
   refine EL.as' [(0, sv A8 C9 l7), (10, pt a0 0), (121, .bool (true))] (by simp only [cellsS58, encS63, g6, Bool.not_true, Bool.not_false]) ?_
   refine EL.quick 1 [0, 121, 122] [(0, sv A8 C9 l7), (121, .bool (true)), (122, pt a0 3)] (by kernel_rfl) ?_
   refine EL.of (EO.Y (YO.loadBox hS 4 rfl 54 3 1 (sv b7 b8 a3) 123 (by kernel_rfl) (by kernel_rfl) (by kernel_rfl) (by kernel_rfl)) ?_)
   refine EL.quick 7 [8] [(8, .bool (decide ((a3.length : Int) = (IntKind.i64.wrap ((l7.length : Int) + 2)))))] (by kernel_rfl) ?_
   refine EL.done (by kernel_rfl) ?_
   refine EQ.code ?_
   refine EW.ret (by kernel_rfl) ?_
   have hS := St.as (os' := Ass.deep 54 21 (Kd.int .i32) (some ⟨e2, 0, none⟩) 10 ([a4, a5, a6, a7, a8, a9, b0, b3, b4, b5] : List (List Int)) :: Ass.box 63 d7 (encS63 c3) :: Ass.box 58 a1 (cellsS58 a2 (c1, c0)) :: Ass.box 58 a0 (cellsS58 {zS58 with f3 := a3, f5 := 3} (b7, b8)) :: Ass.own 21 (Kd.int .i32) (some ⟨c6, 0, none⟩) 2 c2 :: Ass.own 3 (Kd.int .i64) (some ⟨c4, 0, none⟩) 10 b6 :: os) (St.close hS 0 0 rfl rfl rfl ([a4, a5, a6, a7, a8, a9, b0, b3, b4, b5] : List (List Int)) (set_getD _ _)) rfl
   obtain rfl := Option.some.inj H
   exact EQ.leave (.bool (decide ((a3.length : Int) = (IntKind.i64.wrap ((l7.length : Int) + 2))))) (by kernel_rfl) ⟨_, rfl, rfl, (hS.re [] [0, 0, 0, 0, 0, 0] rfl (sub_tail (sub_tail (sub_tail (sub_tail (sub_self))))))⟩
  rw [if_neg g6] at H
  refine EL.keep [0, 10, 121] [(0, sv A8 C9 l7), (10, pt a0 0), (121, .bool (e9))] (by kernel_rfl) ?_
  refine EL.as' [(0, sv A8 C9 l7), (10, pt a0 0), (121, .bool (false))] (by simp only [cellsS58, encS63, (Bool.eq_false_iff.2 g6), Bool.not_true, Bool.not_false]) ?_
  refine EL.quick 9 [8] [(8, .bool (false))] (by kernel_rfl) ?_
  refine EL.done (by kernel_rfl) ?_
  refine EQ.code ?_
  refine EW.ret (by kernel_rfl) ?_
  have hS := St.as (os' := Ass.deep 54 21 (Kd.int .i32) (some ⟨e2, 0, none⟩) 10 ([a4, a5, a6, a7, a8, a9, b0, b3, b4, b5] : List (List Int)) :: Ass.box 63 d7 (encS63 c3) :: Ass.box 58 a1 (cellsS58 a2 (c1, c0)) :: Ass.box 58 a0 (cellsS58 {zS58 with f3 := a3, f5 := 3} (b7, b8)) :: Ass.own 21 (Kd.int .i32) (some ⟨c6, 0, none⟩) 2 c2 :: Ass.own 3 (Kd.int .i64) (some ⟨c4, 0, none⟩) 10 b6 :: os) (St.close hS 0 0 rfl rfl rfl ([a4, a5, a6, a7, a8, a9, b0, b3, b4, b5] : List (List Int)) (set_getD _ _)) rfl
  obtain rfl := Option.some.inj H
  exact EQ.leave (.bool (false)) (by kernel_rfl) ⟨_, rfl, rfl, (hS.re [] [0, 0, 0, 0, 0, 0] rfl (sub_tail (sub_tail (sub_tail (sub_tail (sub_self))))))⟩
 rw [if_neg g9] at H
 refine EW.sq (by kernel_rfl) ?_
 refine EW.rg (by kernel_rfl) ?_
 refine EL.quick 1 [8] [(8, .bool (false))] (by kernel_rfl) ?_
 refine EL.done (by kernel_rfl) ?_
 refine EQ.code ?_
 refine EW.ret (by kernel_rfl) ?_
 refine EQ.ret ?_
 obtain rfl := Option.some.inj H
 exact EQ.leave (.bool (false)) (by kernel_rfl) ⟨_, rfl, rfl, (hS.re [] [] rfl (sub_self))⟩

def confidantlaw10_TaskStacks.Pure : Prop := ∀ (l7 : List Int) (a10 : Int) (a11 : Int) (a12 : Int), l7.length * 4 ≤ 140737488351232 → (∀ x ∈ l7, (Lit.int .i32 x).wf = true) → (Lit.int .i32 a10).wf = true → (Lit.int .i32 a11).wf = true → (Lit.int .u8 a12).wf = true → ∃ K, confidantlaw10_TaskStacks.f K l7 a10 a11 a12 = some true

end Go.Proofs.Ytlcnkngpankkpaa.G
