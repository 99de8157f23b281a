import Derived.Test.YtiilloijkbabbaaDoorProg
import Derived.Test.YtiilloijkbabbaaDoorFwShort
import Derived.Test.YtiilloijkbabbaaDoorFwOpen
import Derived.Test.YtiilloijkbabbaaDoorDoor
import Derived.Test.YtiilloijkbabbaaDoorFwStr
import Derived.Test.YtiilloijkbabbaaDoorG0
namespace Go.Proofs.YtiilloijkbabbaaDoor.G
open Go Go.Fw Go.RowKit Go.Proofs
set_option linter.unusedVariables false
set_option linter.unusedSimpArgs false

/-! ### confidant/image.Take: function 11 -/
def image_Take.l1 (K : Nat) (d9 : (List Int) → Int → (List S27) → Option (List Int × Int × List (List S27) × Bool)) : Nat → (List Int) → Int → (List S27) → Int → Option (List Int × Int × List (List S27) × Bool)
 | 0, _, _, _, _ => none
 | n + 1, c1, d5, a5, a6 => if a6 > 0 then (b5 (instr_Take.f K c1 d5) fun (f4 : List Int) (f5 : Int) (b7 : Int) (b6 : Int) (e1 : Bool) => (if e1 = true then (lt ([(⟨b7, b6⟩ : S27)] : List S27) fun f3 => (if (a5.length + f3.length) * 16 ≤ 140737488355328 then (lt (a5 ++ f3) fun c9 => (image_Take.l1 K d9 n f4 f5 c9 (IntKind.u64.wrap (a6 - 1)))) else none)) else (some (f4, f5, ([] : List (List S27)), false)))) else (d9 c1 d5 a5)
def image_Take.l0 (K : Nat) (d8 : (List Int) → Int → (List (List S27)) → Option (List Int × Int × List (List S27) × Bool)) : Nat → (List Int) → Int → (List (List S27)) → Int → Option (List Int × Int × List (List S27) × Bool)
 | 0, _, _, _, _ => none
 | n + 1, b1, d3, a1, a2 => if a2 > 0 then (lt (fun (c7 : List (List S27)) (e4 : List Int) (f7 : Int) => (image_Take.l0 K d8 n e4 f7 c7 (IntKind.u64.wrap (a2 - 1)))) fun i8 => (lt (fun (c8 : List Int) (d4 : Int) (a8 : List S27) => (if (a1.length + ([a8] : List (List S27)).length) * 24 ≤ 140737488355328 then (lt (a1 ++ ([a8] : List (List S27))) fun e0 => (i8 e0 c8 d4)) else none)) fun d9 => (b3 (pack_Reader_Num.f K b1 d3 512) fun (g5 : List Int) (j0 : Int) (g6 : Int) => (image_Take.l1 K d9 K g5 j0 ([] : List S27) g6)))) else (d8 b1 d3 a1)
def image_Take.f (K : Nat) (a7 : List Int) (g2 : Int) : Option (List Int × Int × List (List S27) × Bool) := lt (fun (d2 : List Int) (f6 : Int) (b8 : List (List S27)) => (b3 (pack_Reader_Err.f K d2 f6) fun (j1 : List Int) (j2 : Int) (g7 : Int) => (if g7 = 0 then (some (j1, j2, b8, true)) else (some (j1, j2, ([] : List (List S27)), false))))) fun d8 => (b3 (pack_Reader_Num.f K a7 g2 64) fun (c6 : List Int) (i9 : Int) (g4 : Int) => (image_Take.l0 K d8 K c6 i9 ([] : List (List S27)) g4))
set_option maxRecDepth 100000 in
theorem image_Take.calls {K : Nat} {a7 : List Int} {g2 : Int} {a0 : Nat} {b2 : Option Addr} {b4 : Nat} {d0 : List Int} {e2 : Int} {d1 : List (List S27)} {e3 : Bool} {B w : World} {os : List Ass} {rs : List Ro} (H : image_Take.f K a7 g2 = some (d0, e2, d1, e3)) (hS : St B w (Ass.box 69 a0 [sv b2 b4 a7, ia g2] :: os) (Ro.sl (Kd.int .u8) b2 b4 a7 :: rs)) :
  Calls Tryd.prog 11 [pt a0 0].toArray w (fun en w' => ∃ v, en = .returned v ∧ ∃ j3 : Option Addr, ∃ j6 : Nat, ∃ j4 : Option Addr, ∃ j7 : Nat, v = .tuple #[sv j4 j7 d1, .bool (e3)] ∧ St B w' (Ass.box 69 a0 [sv j3 j6 d0, ia e2] :: Ass.deep 25 27 kS27 j4 j7 d1 :: os) (Ro.sl (Kd.int .u8) j3 j6 d0 :: Ro.sl (Kd.int .u8) b2 b4 a7 :: rs)) := by
 unfold image_Take.f at H
 refine calls_of_EW (args := [pt a0 0]) (c := Cd11) 43 Tryd.func11 (by kernel_rfl) (by kernel_rfl) (by kernel_rfl) ?_
 refine EW.sq (by kernel_rfl) ?_
 refine EW.rg (by kernel_rfl) ?_
 refine EL.quick 2 [0] [(0, pt a0 0)] (by kernel_rfl) ?_
 refine EL.done (by kernel_rfl) ?_
 refine EQ.code ?_
 refine EW.sq (by kernel_rfl) ?_
 refine EW.sq (by kernel_rfl) ?_
 refine EW.rg (by kernel_rfl) ?_
 refine EL.quick 2 [0, 11] [(0, pt a0 0), (11, .bool (false))] (by kernel_rfl) ?_
 refine EL.done (by kernel_rfl) ?_
 refine EQ.code ?_
 refine EW.cdF (by kernel_rfl) (by kernel_rfl) ?_
 refine EW.skip (by kernel_rfl) ?_
 refine EQ.code ?_
 refine EW.sq (by kernel_rfl) ?_
 refine EW.rg (by kernel_rfl) ?_
 refine EL.quick 1 [0, 4] [(0, pt a0 0), (4, sv none 0 ([] : List (List S27)))] (by kernel_rfl) ?_
 refine EL.done (by kernel_rfl) ?_
 refine EQ.code ?_
 obtain ⟨d8, m8, H⟩ := lt_out H
 refine EW.ct (fun a w => ∃ d2 : List Int, ∃ f6 : Int, ∃ b8 : List (List S27), ∃ f8 : Option Addr, ∃ g0 : Nat, ∃ c2 : Option Addr, ∃ c4 : Nat, Sat 43 [(0, pt a0 0), (4, sv c2 c4 b8)] a ∧ St B w (Ass.box 69 a0 [sv f8 g0 d2, ia f6] :: Ass.deep 25 27 kS27 c2 c4 b8 :: os) (Ro.sl (Kd.int .u8) f8 g0 d2 :: Ro.sl (Kd.int .u8) b2 b4 a7 :: rs) ∧ d8 d2 f6 b8 = some (d0, e2, d1, e3)) (by kernel_rfl) ?_ (fun a w hI => ?_)
 ·refine EW.sq (by kernel_rfl) ?_
  refine EW.rg (by kernel_rfl) ?_
  refine EL.quick 1 [0, 4, 12] [(0, pt a0 0), (4, sv none 0 ([] : List (List S27))), (12, pt a0 0)] (by kernel_rfl) ?_
  have hS : St B _ (Ass.box 69 a0 [sv b2 b4 a7, ia g2] :: os) (Ro.sl (Kd.int .u8) b2 b4 a7 :: rs) := hS.re [0] [] rfl (sub_cons 0 rfl (sub_tail (sub_self)))
  obtain ⟨c6, i9, g4, m4, H⟩ := b3_out H
  have hq := pack_Reader_Num.calls m4 hS
  refine EL.of (EO.callD 27 [pt a0 0, ic 64] _ 13 (by kernel_rfl) (by kernel_rfl) (by kernel_rfl) hq ?_)
  rintro v w ⟨d6, d7, rfl, hS⟩
  refine EL.quick 1 [0, 4, 5] [(0, pt a0 0), (4, sv none 0 ([] : List (List S27))), (5, ic g4)] (by kernel_rfl) ?_
  refine EL.done (by kernel_rfl) ?_
  refine EQ.code ?_
  refine EW.bl 0 (by kernel_rfl) ?_
  have hS := St.nilDeep hS 25 27 kS27
  refine EW.lp (fun n a w => ∃ b1 : List Int, ∃ d3 : Int, ∃ a1 : List (List S27), ∃ a2 : Int, ∃ b9 : Option Addr, ∃ c0 : Nat, ∃ a3 : Option Addr, ∃ a4 : Nat, Sat 43 [(0, pt a0 0), (4, sv a3 a4 a1), (5, ic a2)] a ∧ St B w (Ass.box 69 a0 [sv b9 c0 b1, ia d3] :: Ass.deep 25 27 kS27 a3 a4 a1 :: os) (Ro.sl (Kd.int .u8) b9 c0 b1 :: Ro.sl (Kd.int .u8) d6 d7 c6 :: Ro.sl (Kd.int .u8) b2 b4 a7 :: rs) ∧ image_Take.l0 K d8 n b1 d3 a1 a2 = some (d0, e2, d1, e3)) K (by kernel_rfl) ?_ (fun n a w hI => ?_)
  ·refine EQ.keep [0, 4, 5] [(0, pt a0 0), (4, sv none 0 ([] : List (List S27))), (5, ic g4)] (by kernel_rfl) ?_
   exact fun a ha => ⟨c6, i9, ([] : List (List S27)), g4, d6, d7, none, 0, ha, (hS.re [0, 1] [] rfl (sub_cons 0 rfl (sub_cons 0 rfl (sub_cons 1 rfl (sub_tail (sub_tail (sub_self))))))), H⟩
  obtain ⟨b1, d3, a1, a2, b9, c0, a3, a4, ha, hS, H⟩ := hI
  obtain _ | n := n
  ·simp [image_Take.l0] at H
  rw [image_Take.l0.eq_2] at H
  refine EW.at ?_ a ha
  clear ha a
  refine EW.sq (by kernel_rfl) ?_
  refine EW.sq (by kernel_rfl) ?_
  refine EW.rg (by kernel_rfl) ?_
  refine EL.quick 2 [0, 4, 5, 15] [(0, pt a0 0), (4, sv a3 a4 a1), (5, ic a2), (15, .bool (decide (a2 > 0)))] (by kernel_rfl) ?_
  refine EL.done (by kernel_rfl) ?_
  refine EQ.code ?_
  refine EW.cdP (a2 > 0) (by kernel_rfl) (by kernel_rfl) (fun i4 => ?_) (fun i4 => ?_)
  ·rw [if_pos i4] at H
   refine EW.skip (by kernel_rfl) ?_
   refine EQ.code ?_
   obtain ⟨i8, m9, H⟩ := lt_out H
   refine EW.ct (fun a w => ∃ c7 : List (List S27), ∃ e4 : List Int, ∃ f7 : Int, ∃ e5 : Option Addr, ∃ e9 : Nat, ∃ g8 : Option Addr, ∃ i0 : Nat, Sat 43 [(0, pt a0 0), (4, sv e5 e9 c7), (5, ic a2)] a ∧ St B w (Ass.deep 25 27 kS27 e5 e9 c7 :: Ass.box 69 a0 [sv g8 i0 e4, ia f7] :: os) (Ro.sl (Kd.int .u8) g8 i0 e4 :: Ro.sl (Kd.int .u8) b9 c0 b1 :: Ro.sl (Kd.int .u8) d6 d7 c6 :: Ro.sl (Kd.int .u8) b2 b4 a7 :: rs) ∧ i8 c7 e4 f7 = some (d0, e2, d1, e3)) (by kernel_rfl) ?_ (fun a w hI => ?_)
   ·refine EW.bl 1 (by kernel_rfl) ?_
    refine EW.sq (by kernel_rfl) ?_
    refine EW.rg (by kernel_rfl) ?_
    refine EL.quick 1 [0, 4, 5, 6] [(0, pt a0 0), (4, sv a3 a4 a1), (5, ic a2), (6, sv none 0 ([] : List S27))] (by kernel_rfl) ?_
    refine EL.done (by kernel_rfl) ?_
    refine EQ.code ?_
    obtain ⟨d9, n0, H⟩ := lt_out H
    refine EW.ct (fun a w => ∃ c8 : List Int, ∃ d4 : Int, ∃ a8 : List S27, ∃ e6 : Option Addr, ∃ f0 : Nat, ∃ c3 : Option Addr, ∃ c5 : Nat, Sat 43 [(0, pt a0 0), (4, sv a3 a4 a1), (5, ic a2), (6, sv c3 c5 a8)] a ∧ St B w (Ass.box 69 a0 [sv e6 f0 c8, ia d4] :: Ass.deep 25 27 kS27 a3 a4 a1 :: Ass.own 27 kS27 c3 c5 a8 :: os) (Ro.sl (Kd.int .u8) e6 f0 c8 :: Ro.sl (Kd.int .u8) b9 c0 b1 :: Ro.sl (Kd.int .u8) d6 d7 c6 :: Ro.sl (Kd.int .u8) b2 b4 a7 :: rs) ∧ d9 c8 d4 a8 = some (d0, e2, d1, e3)) (by kernel_rfl) ?_ (fun a w hI => ?_)
    ·refine EW.sq (by kernel_rfl) ?_
     refine EW.rg (by kernel_rfl) ?_
     refine EL.quick 1 [0, 4, 5, 6, 18] [(0, pt a0 0), (4, sv a3 a4 a1), (5, ic a2), (6, sv none 0 ([] : List S27)), (18, pt a0 0)] (by kernel_rfl) ?_
     have hS : St B _ (Ass.box 69 a0 [sv b9 c0 b1, ia d3] :: Ass.deep 25 27 kS27 a3 a4 a1 :: os) (Ro.sl (Kd.int .u8) b9 c0 b1 :: Ro.sl (Kd.int .u8) d6 d7 c6 :: Ro.sl (Kd.int .u8) b2 b4 a7 :: rs) := hS.re [0] [] rfl (sub_cons 0 rfl (sub_tail (sub_self)))
     obtain ⟨g5, j0, g6, m5, H⟩ := b3_out H
     have hq := pack_Reader_Num.calls m5 hS
     refine EL.of (EO.callD 27 [pt a0 0, ic 512] _ 19 (by kernel_rfl) (by kernel_rfl) (by kernel_rfl) hq ?_)
     rintro v w ⟨i2, i3, rfl, hS⟩
     refine EL.quick 1 [0, 4, 5, 6, 7] [(0, pt a0 0), (4, sv a3 a4 a1), (5, ic a2), (6, sv none 0 ([] : List S27)), (7, ic g6)] (by kernel_rfl) ?_
     refine EL.done (by kernel_rfl) ?_
     refine EQ.code ?_
     refine EW.bl 2 (by kernel_rfl) ?_
     have hS := St.nilO hS 27 kS27
     refine EW.lp (fun n a w => ∃ c1 : List Int, ∃ d5 : Int, ∃ a5 : List S27, ∃ a6 : Int, ∃ e7 : Option Addr, ∃ f1 : Nat, ∃ a9 : Option Addr, ∃ b0 : Nat, Sat 43 [(0, pt a0 0), (4, sv a3 a4 a1), (5, ic a2), (6, sv a9 b0 a5), (7, ic a6)] a ∧ St B w (Ass.box 69 a0 [sv e7 f1 c1, ia d5] :: Ass.deep 25 27 kS27 a3 a4 a1 :: Ass.own 27 kS27 a9 b0 a5 :: os) (Ro.sl (Kd.int .u8) e7 f1 c1 :: Ro.sl (Kd.int .u8) i2 i3 g5 :: Ro.sl (Kd.int .u8) b9 c0 b1 :: Ro.sl (Kd.int .u8) d6 d7 c6 :: Ro.sl (Kd.int .u8) b2 b4 a7 :: rs) ∧ image_Take.l1 K d9 n c1 d5 a5 a6 = some (d0, e2, d1, e3)) K (by kernel_rfl) ?_ (fun n a w hI => ?_)
     ·refine EQ.keep [0, 4, 5, 6, 7] [(0, pt a0 0), (4, sv a3 a4 a1), (5, ic a2), (6, sv none 0 ([] : List S27)), (7, ic g6)] (by kernel_rfl) ?_
      exact fun a ha => ⟨g5, j0, ([] : List S27), g6, i2, i3, none, 0, ha, (hS.re [0, 2, 2] [] rfl (sub_cons 0 rfl (sub_cons 0 rfl (sub_cons 1 rfl (sub_cons 2 rfl (sub_cons 3 rfl (sub_tail (sub_tail (sub_tail (sub_tail (sub_self))))))))))), H⟩
     obtain ⟨c1, d5, a5, a6, e7, f1, a9, b0, ha, hS, H⟩ := hI
     obtain _ | n := n
     ·simp [image_Take.l1] at H
     rw [image_Take.l1.eq_2] at H
     refine EW.at ?_ a ha
     clear ha a
     refine EW.sq (by kernel_rfl) ?_
     refine EW.sq (by kernel_rfl) ?_
     refine EW.rg (by kernel_rfl) ?_
     refine EL.quick 2 [0, 4, 5, 6, 7, 21] [(0, pt a0 0), (4, sv a3 a4 a1), (5, ic a2), (6, sv a9 b0 a5), (7, ic a6), (21, .bool (decide (a6 > 0)))] (by kernel_rfl) ?_
     refine EL.done (by kernel_rfl) ?_
     refine EQ.code ?_
     refine EW.cdP (a6 > 0) (by kernel_rfl) (by kernel_rfl) (fun i5 => ?_) (fun i5 => ?_)
     ·rw [if_pos i5] at H
      refine EW.skip (by kernel_rfl) ?_
      refine EQ.code ?_
      refine EW.sq (by kernel_rfl) ?_
      refine EW.bl 3 (by kernel_rfl) ?_
      refine EW.sq (by kernel_rfl) ?_
      refine EW.rg (by kernel_rfl) ?_
      refine EL.quick 1 [0, 4, 5, 6, 7, 25] [(0, pt a0 0), (4, sv a3 a4 a1), (5, ic a2), (6, sv a9 b0 a5), (7, ic a6), (25, pt a0 0)] (by kernel_rfl) ?_
      have hS : St B _ (Ass.box 69 a0 [sv e7 f1 c1, ia d5] :: Ass.deep 25 27 kS27 a3 a4 a1 :: Ass.own 27 kS27 a9 b0 a5 :: os) (Ro.sl (Kd.int .u8) e7 f1 c1 :: Ro.sl (Kd.int .u8) i2 i3 g5 :: Ro.sl (Kd.int .u8) b9 c0 b1 :: Ro.sl (Kd.int .u8) d6 d7 c6 :: Ro.sl (Kd.int .u8) b2 b4 a7 :: rs) := hS.re [0] [] rfl (sub_cons 0 rfl (sub_tail (sub_self)))
      obtain ⟨f4, f5, b7, b6, e1, m6, H⟩ := b5_out H
      have hq := instr_Take.calls m6 hS
      refine EL.of (EO.callD 28 [pt a0 0] _ 26 (by kernel_rfl) (by kernel_rfl) (by kernel_rfl) hq ?_)
      rintro v w ⟨g9, i1, rfl, hS⟩
      refine EL.quick 3 [0, 4, 5, 6, 7, 27, 28] [(0, pt a0 0), (4, sv a3 a4 a1), (5, ic a2), (6, sv a9 b0 a5), (7, ic a6), (27, ag [ia b7, ib b6]), (28, .bool (e1))] (by kernel_rfl) ?_
      refine EL.of (EO.alloc hS 27 (ag [ia 0, ib 0]) [ia 0, ib 0] 8 (by kernel_rfl) (by kernel_rfl) (by kernel_rfl) (by kernel_rfl) (by first | rfl | kernel_rfl) ?_)
      intro g3 w hS
      refine EL.of (EO.storeBox (os' := Ass.box 27 g3 [ia b7, ib b6] :: Ass.box 69 a0 [sv g9 i1 f4, ia f5] :: Ass.deep 25 27 kS27 a3 a4 a1 :: Ass.own 27 kS27 a9 b0 a5 :: os) hS 0 rfl 27 0 (ag [ia b7, ib b6]) [ia b7, ib b6] (by kernel_rfl) (by kernel_rfl) (by kernel_rfl) (by kernel_rfl) (by kernel_rfl) (by kernel_rfl) rfl rfl ?_)
      intro w hS
      refine EL.quick 1 [0, 4, 5, 6, 7, 8, 9] [(0, pt a0 0), (4, sv a3 a4 a1), (5, ic a2), (6, sv a9 b0 a5), (7, ic a6), (8, pt g3 0), (9, .bool (e1))] (by kernel_rfl) ?_
      refine EL.done (by kernel_rfl) ?_
      refine EQ.code ?_
      refine EW.sq (by kernel_rfl) ?_
      refine EW.sq (by kernel_rfl) ?_
      refine EW.rg (by kernel_rfl) ?_
      refine EL.quick 2 [0, 4, 5, 6, 7, 8, 30] [(0, pt a0 0), (4, sv a3 a4 a1), (5, ic a2), (6, sv a9 b0 a5), (7, ic a6), (8, pt g3 0), (30, .bool (!(e1)))] (by kernel_rfl) ?_
      refine EL.done (by kernel_rfl) ?_
      refine EQ.code ?_
      refine EW.cdQ (b := !(e1)) (e1 = true) (false) (by kernel_rfl) (by kernel_rfl) ⟨fun h => (by rw [h] <;> rfl), fun h => (by rw [Bool.eq_false_iff.2 h] <;> rfl)⟩ (fun i6 => ?_) (fun i6 => ?_)
      ·rw [if_pos i6] at H
       refine EW.skip (by kernel_rfl) ?_
       refine EQ.code ?_
       refine EW.rg (by kernel_rfl) ?_
       refine EL.quick 1 [0, 4, 5, 7, 8, 31] [(0, pt a0 0), (4, sv a3 a4 a1), (5, ic a2), (7, ic a6), (8, pt g3 0), (31, sv a9 b0 a5)] (by kernel_rfl) ?_
       refine EL.of (EO.Y (YO.loadBox hS 0 rfl 27 0 2 (ag [ia b7, ib b6]) 32 (by kernel_rfl) (by kernel_rfl) (by kernel_rfl) (by kernel_rfl)) ?_)
       obtain ⟨f3, m1, H⟩ := lt_out H
       refine EL.of (EO.lit hS kS27 27 25 1 #[(0, ag [ia b7, ib b6])] [ia b7, ib b6] f3 33 (by kernel_rfl) (by kernel_rfl) (by kernel_rfl) (fun _ => (by kernel_rfl)) (by rw [m1]; rfl) (by kernel_rfl) (fun w G hr => (by rw [m1]; exact ⟨[ia b7, ib b6], [], rfl, ⟨[ia b7], [ib b6], rfl, rfl, ⟨[ib b6], [], rfl, rfl, rfl⟩⟩, rfl⟩)) ?_)
       intro j9 w hS
       obtain ⟨m2, H⟩ := ite_in H
       obtain ⟨c9, n1, H⟩ := lt_out H
       refine EL.of (EO.append hS 25 25 27 16 4 kS27 a9 b0 a5 rfl (some ⟨j9, 0, none⟩) 1 f3 (Rd.own 0 27 rfl) c9 n1 (fun e8 f2 => Ass.own 27 kS27 (some ⟨j9, 0, none⟩) 1 f3 :: Ass.box 27 g3 [ia b7, ib b6] :: Ass.box 69 a0 [sv g9 i1 f4, ia f5] :: Ass.deep 25 27 kS27 a3 a4 a1 :: Ass.own 27 kS27 e8 f2 c9 :: os) 34 (by kernel_rfl) (by kernel_rfl) (by kernel_rfl) (by kernel_rfl) m2 (fun _ _ => rfl) ?_)
       intro e8 f2 w hS
       refine EL.quick 1 [0, 4, 5, 6, 7] [(0, pt a0 0), (4, sv a3 a4 a1), (5, ic a2), (6, sv e8 f2 c9), (7, ic a6)] (by kernel_rfl) ?_
       refine EL.done (by kernel_rfl) ?_
       refine EQ.pop ?_
       refine EQ.code ?_
       refine EW.rg (by kernel_rfl) ?_
       refine EL.quick 3 [0, 4, 5, 6, 7] [(0, pt a0 0), (4, sv a3 a4 a1), (5, ic a2), (6, sv e8 f2 c9), (7, ic (IntKind.u64.wrap (a6 - 1)))] (by kernel_rfl) ?_
       refine EL.done (by kernel_rfl) ?_
       refine EQ.to ?_
       refine EQ.keep [0, 4, 5, 6, 7] [(0, pt a0 0), (4, sv a3 a4 a1), (5, ic a2), (6, sv e8 f2 c9), (7, ic (IntKind.u64.wrap (a6 - 1)))] (by kernel_rfl) ?_
       exact fun a ha => ⟨n, Nat.lt_succ_self n, f4, f5, c9, IntKind.u64.wrap (a6 - 1), g9, i1, e8, f2, ha, (hS.re [4, 4, 4] [3, 3] rfl (sub_cons 0 rfl (sub_cons 2 rfl (sub_cons 3 rfl (sub_cons 4 rfl (sub_cons 5 rfl (sub_tail (sub_tail (sub_tail (sub_tail (sub_tail (sub_tail (sub_self))))))))))))), H⟩
      rw [if_neg i6] at H
      refine EW.sq (by kernel_rfl) ?_
      refine EW.rg (by kernel_rfl) ?_
      refine EL.quick 2 [2, 3] [(2, sv none 0 ([] : List (List S27))), (3, .bool (false))] (by kernel_rfl) ?_
      refine EL.done (by kernel_rfl) ?_
      refine EQ.code ?_
      refine EW.ret (by kernel_rfl) ?_
      refine EQ.ret ?_
      refine EQ.ret ?_
      refine EQ.ret ?_
      refine EQ.ret ?_
      refine EQ.ret ?_
      refine EQ.ret ?_
      refine EQ.ret ?_
      refine EQ.ret ?_
      refine EQ.ret ?_
      refine EQ.ret ?_
      refine EQ.ret ?_
      have hS := St.nilDeep hS 25 27 kS27
      simp only [sv, Option.some.injEq, Prod.mk.injEq] at H
      obtain ⟨rfl, rfl, rfl, rfl⟩ := H
      exact EQ.leave (.tuple #[sv none 0 ([] : List (List S27)), .bool (false)]) (by kernel_rfl) ⟨_, rfl, g9, i1, none, 0, rfl, (hS.re [0, 2] [2, 2, 2] rfl (sub_cons 0 rfl (sub_tail (sub_tail (sub_tail (sub_tail (sub_tail (sub_self))))))))⟩
     rw [if_neg i5] at H
     refine EW.exit (id := 2) (by kernel_rfl) ?_
     refine EQ.exitCode ?_
     refine EQ.exitTo ?_
     refine EQ.exitHere ?_
     refine EQ.to ?_
     refine EQ.keep [0, 4, 5, 6] [(0, pt a0 0), (4, sv a3 a4 a1), (5, ic a2), (6, sv a9 b0 a5)] (by kernel_rfl) ?_
     exact fun a ha => ⟨c1, d5, a5, e7, f1, a9, b0, ha, (hS.re [2, 2, 2] [] rfl (sub_cons 0 rfl (sub_cons 2 rfl (sub_cons 3 rfl (sub_cons 4 rfl (sub_tail (sub_tail (sub_tail (sub_tail (sub_tail (sub_self))))))))))), H⟩
    obtain ⟨c8, d4, a8, e6, f0, c3, c5, ha, hS, H⟩ := hI
    rw [n0] at H
    (try dsimp only at H)
    refine EW.at ?_ a ha
    clear ha a
    refine EW.rg (by kernel_rfl) ?_
    refine EL.quick 2 [0, 5, 35, 36] [(0, pt a0 0), (5, ic a2), (35, sv a3 a4 a1), (36, sv c3 c5 a8)] (by kernel_rfl) ?_
    refine EL.of (EO.lit (xs := ([(c3, a8.length, c5)] : List Hdr)) hS Kd.hdr 25 24 1 #[(0, sv c3 c5 a8)] [sv c3 c5 a8] 37 (by kernel_rfl) (by kernel_rfl) (by kernel_rfl) (fun _ => (by kernel_rfl)) rfl (by kernel_rfl) (fun w G hr => ⟨[sv c3 c5 a8], [], rfl, rfl, rfl⟩) ?_)
    intro m0 w hS
    have hS := St.as (os' := Ass.deep 25 27 kS27 (some ⟨m0, 0, none⟩) 1 ([a8] : List (List S27)) :: Ass.box 69 a0 [sv e6 f0 c8, ia d4] :: Ass.deep 25 27 kS27 a3 a4 a1 :: os) (St.fold (B := B) (os := _) (rs := _) (et := 25) (et' := 27) (K := kS27) (hs := [(c3, a8.length, c5)]) (xs := ([a8] : List (List S27))) ⟨rfl, trivial⟩ (St.re hS [3, 1] [] rfl sub_self)) rfl
    obtain ⟨m3, H⟩ := ite_in H
    obtain ⟨e0, n2, H⟩ := lt_out H
    refine EL.of (EO.appendDeep hS 24 24 24 2 0 kS27 a3 a4 a1 rfl (some ⟨m0, 0, none⟩) 1 ([a8] : List (List S27)) rfl e0 n2 (fun f9 g1 => Ass.deep 25 27 kS27 f9 g1 e0 :: Ass.box 69 a0 [sv e6 f0 c8, ia d4] :: os) 38 (by kernel_rfl) (by kernel_rfl) (by kernel_rfl) (by kernel_rfl) m3 (fun _ _ => rfl) ?_)
    intro f9 g1 w hS
    refine EL.quick 1 [0, 4, 5] [(0, pt a0 0), (4, sv f9 g1 e0), (5, ic a2)] (by kernel_rfl) ?_
    refine EL.done (by kernel_rfl) ?_
    refine EQ.pop ?_
    refine EQ.to ?_
    refine EQ.keep [0, 4, 5] [(0, pt a0 0), (4, sv f9 g1 e0), (5, ic a2)] (by kernel_rfl) ?_
    exact fun a ha => ⟨e0, c8, d4, f9, g1, e6, f0, ha, (hS.re [1, 1] [] rfl (sub_cons 0 rfl (sub_cons 1 rfl (sub_cons 2 rfl (sub_cons 3 rfl (sub_tail (sub_tail (sub_tail (sub_tail (sub_self)))))))))), H⟩
   obtain ⟨c7, e4, f7, e5, e9, g8, i0, ha, hS, H⟩ := hI
   rw [m9] at H
   (try dsimp only at H)
   refine EW.at ?_ a ha
   clear ha a
   refine EW.rg (by kernel_rfl) ?_
   refine EL.quick 3 [0, 4, 5] [(0, pt a0 0), (4, sv e5 e9 c7), (5, ic (IntKind.u64.wrap (a2 - 1)))] (by kernel_rfl) ?_
   refine EL.done (by kernel_rfl) ?_
   refine EQ.to ?_
   refine EQ.keep [0, 4, 5] [(0, pt a0 0), (4, sv e5 e9 c7), (5, ic (IntKind.u64.wrap (a2 - 1)))] (by kernel_rfl) ?_
   exact fun a ha => ⟨n, Nat.lt_succ_self n, e4, f7, c7, IntKind.u64.wrap (a2 - 1), g8, i0, e5, e9, ha, (hS.re [0, 1] [] rfl (sub_cons 0 rfl (sub_cons 2 rfl (sub_cons 3 rfl (sub_tail (sub_tail (sub_tail (sub_tail (sub_self))))))))), H⟩
  rw [if_neg i4] at H
  refine EW.exit (id := 0) (by kernel_rfl) ?_
  refine EQ.exitCode ?_
  refine EQ.exitTo ?_
  refine EQ.exitHere ?_
  refine EQ.to ?_
  refine EQ.keep [0, 4] [(0, pt a0 0), (4, sv a3 a4 a1)] (by kernel_rfl) ?_
  exact fun a ha => ⟨b1, d3, a1, b9, c0, a3, a4, ha, (hS.re [1, 1] [] rfl (sub_cons 0 rfl (sub_cons 2 rfl (sub_tail (sub_tail (sub_tail (sub_self))))))), H⟩
 obtain ⟨d2, f6, b8, f8, g0, c2, c4, ha, hS, H⟩ := hI
 rw [m8] at H
 (try dsimp only at H)
 refine EW.at ?_ a ha
 clear ha a
 refine EW.sq (by kernel_rfl) ?_
 refine EW.sq (by kernel_rfl) ?_
 refine EW.rg (by kernel_rfl) ?_
 refine EL.quick 1 [4, 39] [(4, sv c2 c4 b8), (39, pt a0 0)] (by kernel_rfl) ?_
 have hS : St B _ (Ass.box 69 a0 [sv f8 g0 d2, ia f6] :: Ass.deep 25 27 kS27 c2 c4 b8 :: os) (Ro.sl (Kd.int .u8) f8 g0 d2 :: Ro.sl (Kd.int .u8) b2 b4 a7 :: rs) := hS.re [0] [] rfl (sub_cons 0 rfl (sub_tail (sub_self)))
 obtain ⟨j1, j2, g7, m7, H⟩ := b3_out H
 have hq := pack_Reader_Err.calls m7 hS
 refine EL.of (EO.callD 29 [pt a0 0] _ 40 (by kernel_rfl) (by kernel_rfl) (by kernel_rfl) hq ?_)
 rintro v w ⟨j5, j8, rfl, hS⟩
 refine EL.quick 1 [4, 41] [(4, sv c2 c4 b8), (41, .bool (!(decide (g7 = 0))))] (by kernel_rfl) ?_
 refine EL.done (by kernel_rfl) ?_
 refine EQ.code ?_
 refine EW.cdQ (b := !(decide (g7 = 0))) (g7 = 0) (false) (by kernel_rfl) (by kernel_rfl) ⟨fun h => (by rw [decide_eq_true h] <;> rfl), fun h => (by rw [decide_eq_false h] <;> rfl)⟩ (fun i7 => ?_) (fun i7 => ?_)
 ·rw [if_pos i7] at H
  refine EW.skip (by kernel_rfl) ?_
  refine EQ.code ?_
  refine EW.sq (by kernel_rfl) ?_
  refine EW.rg (by kernel_rfl) ?_
  refine EL.quick 3 [2, 3] [(2, sv c2 c4 b8), (3, .bool (true))] (by kernel_rfl) ?_
  refine EL.done (by kernel_rfl) ?_
  refine EQ.code ?_
  refine EW.ret (by kernel_rfl) ?_
  simp only [sv, Option.some.injEq, Prod.mk.injEq] at H
  obtain ⟨rfl, rfl, rfl, rfl⟩ := H
  exact EQ.leave (.tuple #[sv c2 c4 b8, .bool (true)]) (by kernel_rfl) ⟨_, rfl, j5, j8, c2, c4, rfl, (hS.re [1, 1] [] rfl (sub_cons 0 rfl (sub_tail (sub_tail (sub_self)))))⟩
 rw [if_neg i7] at H
 refine EW.sq (by kernel_rfl) ?_
 refine EW.rg (by kernel_rfl) ?_
 refine EL.quick 2 [2, 3] [(2, sv none 0 ([] : List (List S27))), (3, .bool (false))] (by kernel_rfl) ?_
 refine EL.done (by kernel_rfl) ?_
 refine EQ.code ?_
 refine EW.ret (by kernel_rfl) ?_
 refine EQ.ret ?_
 have hS := St.nilDeep hS 25 27 kS27
 simp only [sv, Option.some.injEq, Prod.mk.injEq] at H
 obtain ⟨rfl, rfl, rfl, rfl⟩ := H
 exact EQ.leave (.tuple #[sv none 0 ([] : List (List S27)), .bool (false)]) (by kernel_rfl) ⟨_, rfl, j5, j8, none, 0, rfl, (hS.re [0, 1] [2] rfl (sub_cons 0 rfl (sub_tail (sub_tail (sub_self)))))⟩

/-! ### slices.Equal[[]confidant/api.Instr,confidant/api.Instr]: function 23 -/
def api_Instr.l0 (K : Nat) (a0 : List S27) (a2 : List S27) : Nat → Int → Option Bool
 | 0, _ => none
 | n + 1, a1 => if a1 < (a0.length : Int) then (if 0 ≤ a1 then (if a1 < (a2.length : Int) then (if ((((a0.getD a1.toNat zS27).f0) == ((a2.getD a1.toNat zS27).f0)) && ((((a0.getD a1.toNat zS27).f1) == ((a2.getD a1.toNat zS27).f1)) && true)) = true then (api_Instr.l0 K a0 a2 n (IntKind.i64.wrap (a1 + 1))) else (some false)) else none) else none) else (some true)
def api_Instr.f (K : Nat) (a0 : List S27) (a2 : List S27) : Option Bool := if (a0.length : Int) = (a2.length : Int) then (api_Instr.l0 K a0 a2 K 0) else (some false)
set_option maxRecDepth 100000 in
theorem api_Instr.calls {K : Nat} {a0 : List S27} {a2 : List S27} {a5 : Option Addr} {a3 : Nat} {a6 : Option Addr} {a4 : Nat} {b4 : Bool} {B w : World} {os : List Ass} {rs : List Ro} (H : api_Instr.f K a0 a2 = some b4) (hS : St B w (os) (Ro.sl kS27 a5 a3 a0 :: Ro.sl kS27 a6 a4 a2 :: rs)) :
  Calls Tryd.prog 23 [sv a5 a3 a0, sv a6 a4 a2].toArray w (fun en w' => ∃ v, en = .returned v ∧ v = .bool (b4) ∧ St B w' (os) (Ro.sl kS27 a5 a3 a0 :: Ro.sl kS27 a6 a4 a2 :: rs)) := by
 unfold api_Instr.f at H
 refine calls_of_EW (args := [sv a5 a3 a0, sv a6 a4 a2]) (c := Cd23) 26 Tryd.func23 (by kernel_rfl) (by kernel_rfl) (by kernel_rfl) ?_
 refine EW.sq (by kernel_rfl) ?_
 refine EW.rg (by kernel_rfl) ?_
 refine EL.quick 1 [0, 1] [(0, sv a5 a3 a0), (1, sv a6 a4 a2)] (by kernel_rfl) ?_
 refine EL.done (by kernel_rfl) ?_
 refine EQ.code ?_
 refine EW.sq (by kernel_rfl) ?_
 refine EW.sq (by kernel_rfl) ?_
 refine EW.rg (by kernel_rfl) ?_
 refine EL.quick 5 [0, 1, 10] [(0, sv a5 a3 a0), (1, sv a6 a4 a2), (10, .bool (!(decide ((a0.length : Int) = (a2.length : Int)))))] (by kernel_rfl) ?_
 refine EL.done (by kernel_rfl) ?_
 refine EQ.code ?_
 refine EW.cdQ (b := !(decide ((a0.length : Int) = (a2.length : Int)))) ((a0.length : Int) = (a2.length : Int)) (false) (by kernel_rfl) (by kernel_rfl) ⟨fun h => (by rw [decide_eq_true h] <;> rfl), fun h => (by rw [decide_eq_false h] <;> rfl)⟩ (fun b1 => ?_) (fun b1 => ?_)
 ·rw [if_pos b1] at H
  refine EW.skip (by kernel_rfl) ?_
  refine EQ.code ?_
  refine EW.sq (by kernel_rfl) ?_
  refine EW.sq (by kernel_rfl) ?_
  refine EW.rg (by kernel_rfl) ?_
  refine EL.quick 3 [0, 1, 12, 13] [(0, sv a5 a3 a0), (1, sv a6 a4 a2), (12, ia (a0.length : Int)), (13, ia 0)] (by kernel_rfl) ?_
  refine EL.done (by kernel_rfl) ?_
  refine EQ.code ?_
  refine EW.bl 0 (by kernel_rfl) ?_
  refine EW.lp (fun n a w => ∃ a1 : Int, Sat 26 [(0, sv a5 a3 a0), (1, sv a6 a4 a2), (12, ia (a0.length : Int)), (13, ia a1)] a ∧ St B w (os) (Ro.sl kS27 a5 a3 a0 :: Ro.sl kS27 a6 a4 a2 :: rs) ∧ api_Instr.l0 K a0 a2 n a1 = some b4) K (by kernel_rfl) ?_ (fun n a w hI => ?_)
  ·refine EQ.keep [0, 1, 12, 13] [(0, sv a5 a3 a0), (1, sv a6 a4 a2), (12, ia (a0.length : Int)), (13, ia 0)] (by kernel_rfl) ?_
   exact fun a ha => ⟨0, ha, (hS.re [] [] rfl (sub_cons 0 rfl (sub_cons 1 rfl (sub_tail (sub_tail (sub_self)))))), H⟩
  obtain ⟨a1, ha, hS, H⟩ := hI
  obtain _ | n := n
  ·simp [api_Instr.l0] at H
  rw [api_Instr.l0.eq_2] at H
  refine EW.at ?_ a ha
  clear ha a
  refine EW.sq (by kernel_rfl) ?_
  refine EW.rg (by kernel_rfl) ?_
  refine EL.quick 1 [0, 1, 12, 13, 14] [(0, sv a5 a3 a0), (1, sv a6 a4 a2), (12, ia (a0.length : Int)), (13, ia a1), (14, .bool (decide (a1 < (a0.length : Int))))] (by kernel_rfl) ?_
  refine EL.done (by kernel_rfl) ?_
  refine EQ.code ?_
  refine EW.sq (by kernel_rfl) ?_
  refine EW.cdP (a1 < (a0.length : Int)) (by kernel_rfl) (by kernel_rfl) (fun a9 => ?_) (fun a9 => ?_)
  ·rw [if_pos a9] at H
   refine EW.skip (by kernel_rfl) ?_
   refine EQ.code ?_
   refine EW.sq (by kernel_rfl) ?_
   refine EW.bl 1 (by kernel_rfl) ?_
   refine EW.sq (by kernel_rfl) ?_
   refine EW.rg (by kernel_rfl) ?_
   refine EL.quick 2 [0, 1, 5, 12, 13] [(0, sv a5 a3 a0), (1, sv a6 a4 a2), (5, ia a1), (12, ia (a0.length : Int)), (13, ia a1)] (by kernel_rfl) ?_
   refine EL.done (by kernel_rfl) ?_
   refine EQ.code ?_
   refine EW.sq (by kernel_rfl) ?_
   obtain ⟨b0, H⟩ := ite_in H
   obtain ⟨a7, rfl⟩ := St.rd_some hS (Rd.ro 0 rfl) b0 a9
   obtain ⟨b2, H⟩ := ite_in H
   obtain ⟨a8, rfl⟩ := St.rd_some hS (Rd.ro 1 rfl) b0 b2
   have hS := hS.drew
   refine EW.dr (B := B) [] [Ro.sl kS27 (some a7) a3 a0, Ro.sl kS27 (some a8) a4 a2] (by kernel_rfl) (by kernel_rfl) ?_
   have hN : Region.noSelect Cd23.r.r.l.r.l.l.r.r.l.l.r.l.ops = true := (by kernel_rfl)
   have hF : freeAll Cd23.r.r.l.r.l.l.r.r.l.l.r.l.ops = true := (by kernel_rfl)
   have hC : Core B [] [Ro.sl kS27 (some a7) a3 a0, Ro.sl kS27 (some a8) a4 a2] _ := ⟨_, _, hS⟩
   refine ED.quick hN hF hC [0, 1, 4, 5] [0, 1, 12, 13, 16, 17, 20, 21] 5 [(0, sv (some a7) a3 a0), (1, sv (some a8) a4 a2), (12, ia (a0.length : Int)), (13, ia a1), (16, sv (some a7) a3 a0), (17, ia a1), (20, sv (some a8) a4 a2), (21, ia a1)] (bm 9 51) (by kernel_rfl) (by kernel_rfl) ?_
   refine ED.Y hN hF hC 2 4 (bm 9 55) (by kernel_rfl) (by kernel_rfl) rfl (fun _ _ _ hS => YO.idx 25 2 a7 a0.length a3 .i64 a1 18 (by kernel_rfl) (by kernel_rfl) (by kernel_rfl) (by kernel_rfl) b0 a9) ?_
   refine ED.Y hN hF hC 3 3 (bm 9 63) (by kernel_rfl) (by kernel_rfl) rfl (fun _ _ _ hS => YO.loadEl hS kS27 a7 a3 a0 (Rd.ro 0 rfl) zS27 encS27 encS27_of a1 b0 a9 27 2 0 2 rfl (ag [ia ((a0.getD a1.toNat zS27).f0), ib ((a0.getD a1.toNat zS27).f1)]) 19 (by kernel_rfl) (by kernel_rfl) (by kernel_rfl) (by kernel_rfl)) ?_
   refine ED.Y hN hF hC 6 2 (bm 9 127) (by kernel_rfl) (by kernel_rfl) rfl (fun _ _ _ hS => YO.idx 25 2 a8 a2.length a4 .i64 a1 22 (by kernel_rfl) (by kernel_rfl) (by kernel_rfl) (by kernel_rfl) b0 b2) ?_
   refine ED.Y hN hF hC 7 1 (bm 9 255) (by kernel_rfl) (by kernel_rfl) rfl (fun _ _ _ hS => YO.loadEl hS kS27 a8 a4 a2 (Rd.ro 1 rfl) zS27 encS27 encS27_of a1 b0 b2 27 2 0 2 rfl (ag [ia ((a2.getD a1.toNat zS27).f0), ib ((a2.getD a1.toNat zS27).f1)]) 23 (by kernel_rfl) (by kernel_rfl) (by kernel_rfl) (by kernel_rfl)) ?_
   refine ED.Y hN hF hC 8 0 (bm 9 511) (by kernel_rfl) (by kernel_rfl) rfl (fun _ _ _ hS => YO.eqAg .neq 27 (.tmp 19) (.tmp 23) #[ia ((a0.getD a1.toNat zS27).f0), ib ((a0.getD a1.toNat zS27).f1)] #[ia ((a2.getD a1.toNat zS27).f0), ib ((a2.getD a1.toNat zS27).f1)] ((((a0.getD a1.toNat zS27).f0) == ((a2.getD a1.toNat zS27).f0)) && ((((a0.getD a1.toNat zS27).f1) == ((a2.getD a1.toNat zS27).f1)) && true)) (!(((((a0.getD a1.toNat zS27).f0) == ((a2.getD a1.toNat zS27).f0)) && ((((a0.getD a1.toNat zS27).f1) == ((a2.getD a1.toNat zS27).f1)) && true)))) 24 (by kernel_rfl) (by kernel_rfl) (by kernel_rfl) (by kernel_rfl) (by kernel_rfl) (.inr ⟨rfl, rfl⟩)) ?_
   refine ED.done (by kernel_rfl) ?_
   refine EQ.code ?_
   refine EW.cdQ (b := !(((((a0.getD a1.toNat zS27).f0) == ((a2.getD a1.toNat zS27).f0)) && ((((a0.getD a1.toNat zS27).f1) == ((a2.getD a1.toNat zS27).f1)) && true)))) (((((a0.getD a1.toNat zS27).f0) == ((a2.getD a1.toNat zS27).f0)) && ((((a0.getD a1.toNat zS27).f1) == ((a2.getD a1.toNat zS27).f1)) && true)) = true) (false) (by kernel_rfl) (by kernel_rfl) ⟨fun h => (by rw [h] <;> rfl), fun h => (by rw [Bool.eq_false_iff.2 h] <;> rfl)⟩ (fun b3 => ?_) (fun b3 => ?_)
   ·rw [if_pos b3] at H
    refine EW.skip (by kernel_rfl) ?_
    refine EQ.pop ?_
    refine EQ.code ?_
    refine EW.rg (by kernel_rfl) ?_
    refine EL.quick 2 [0, 1, 12, 13] [(0, sv (some a7) a3 a0), (1, sv (some a8) a4 a2), (12, ia (a0.length : Int)), (13, ia (IntKind.i64.wrap (a1 + 1)))] (by kernel_rfl) ?_
    refine EL.done (by kernel_rfl) ?_
    refine EQ.to ?_
    refine EQ.keep [0, 1, 12, 13] [(0, sv (some a7) a3 a0), (1, sv (some a8) a4 a2), (12, ia (a0.length : Int)), (13, ia (IntKind.i64.wrap (a1 + 1)))] (by kernel_rfl) ?_
    exact fun a ha => ⟨n, Nat.lt_succ_self n, IntKind.i64.wrap (a1 + 1), ha, (hS.re [] [] rfl (sub_cons 0 rfl (sub_cons 1 rfl (sub_tail (sub_tail (sub_self)))))), H⟩
   rw [if_neg b3] at H
   refine EW.sq (by kernel_rfl) ?_
   refine EW.rg (by kernel_rfl) ?_
   refine EL.quick 1 [4] [(4, .bool (false))] (by kernel_rfl) ?_
   refine EL.done (by kernel_rfl) ?_
   refine EQ.code ?_
   refine EW.ret (by kernel_rfl) ?_
   refine EQ.ret ?_
   refine EQ.ret ?_
   refine EQ.ret ?_
   refine EQ.ret ?_
   refine EQ.ret ?_
   obtain rfl := Option.some.inj H
   exact EQ.leave (.bool (false)) (by kernel_rfl) ⟨_, rfl, rfl, (hS.re [] [] rfl (sub_self))⟩
  rw [if_neg a9] at H
  refine EW.exit (id := 0) (by kernel_rfl) ?_
  refine EQ.exitCode ?_
  refine EQ.exitTo ?_
  refine EQ.exitHere ?_
  refine EQ.code ?_
  refine EW.sq (by kernel_rfl) ?_
  refine EW.rg (by kernel_rfl) ?_
  refine EL.quick 1 [4] [(4, .bool (true))] (by kernel_rfl) ?_
  refine EL.done (by kernel_rfl) ?_
  refine EQ.code ?_
  refine EW.ret (by kernel_rfl) ?_
  obtain rfl := Option.some.inj H
  exact EQ.leave (.bool (true)) (by kernel_rfl) ⟨_, rfl, rfl, (hS.re [] [] rfl (sub_self))⟩
 rw [if_neg b1] at H
 refine EW.sq (by kernel_rfl) ?_
 refine EW.rg (by kernel_rfl) ?_
 refine EL.quick 1 [4] [(4, .bool (false))] (by kernel_rfl) ?_
 refine EL.done (by kernel_rfl) ?_
 refine EQ.code ?_
 refine EW.ret (by kernel_rfl) ?_
 refine EQ.ret ?_
 obtain rfl := Option.some.inj H
 exact EQ.leave (.bool (false)) (by kernel_rfl) ⟨_, rfl, rfl, (hS.re [] [] rfl (sub_self))⟩

/-! ### confidant/image.Same$1: function 22 -/
def image_Same_1.f (K : Nat) (a0 : List S27) (a1 : List S27) : Option Bool := b1 (api_Instr.f K a0 a1) fun (a6 : Bool) => (some a6)
set_option maxRecDepth 100000 in
theorem image_Same_1.calls {K : Nat} {a0 : List S27} {a1 : List S27} {a2 : Option Addr} {a4 : Nat} {a3 : Option Addr} {a5 : Nat} {a7 : Bool} {B w : World} {os : List Ass} {rs : List Ro} (H : image_Same_1.f K a0 a1 = some a7) (hS : St B w (os) (Ro.sl kS27 a2 a4 a0 :: Ro.sl kS27 a3 a5 a1 :: rs)) :
  Calls Tryd.prog 22 [sv a2 a4 a0, sv a3 a5 a1].toArray w (fun en w' => ∃ v, en = .returned v ∧ v = .bool (a7) ∧ St B w' (os) (Ro.sl kS27 a2 a4 a0 :: Ro.sl kS27 a3 a5 a1 :: rs)) := by
 unfold image_Same_1.f at H
 refine calls_of_EW (args := [sv a2 a4 a0, sv a3 a5 a1]) (c := Cd22) 8 Tryd.func22 (by kernel_rfl) (by kernel_rfl) (by kernel_rfl) ?_
 refine EW.sq (by kernel_rfl) ?_
 refine EW.rg (by kernel_rfl) ?_
 refine EL.quick 1 [0, 1] [(0, sv a2 a4 a0), (1, sv a3 a5 a1)] (by kernel_rfl) ?_
 refine EL.done (by kernel_rfl) ?_
 refine EQ.code ?_
 refine EW.sq (by kernel_rfl) ?_
 refine EW.rg (by kernel_rfl) ?_
 refine EL.quick 2 [5, 6] [(5, sv a2 a4 a0), (6, sv a3 a5 a1)] (by kernel_rfl) ?_
 have hS : St B _ (os) (Ro.sl kS27 a2 a4 a0 :: Ro.sl kS27 a3 a5 a1 :: rs) := hS.re [] [] rfl (sub_cons 0 rfl (sub_cons 1 rfl (sub_tail (sub_tail (sub_self)))))
 obtain ⟨a6, a8, H⟩ := b1_out H
 have hq := api_Instr.calls a8 hS
 refine EL.of (EO.callD 23 [sv a2 a4 a0, sv a3 a5 a1] _ 7 (by kernel_rfl) (by kernel_rfl) (by kernel_rfl) hq ?_)
 rintro v w ⟨rfl, hS⟩
 refine EL.quick 1 [4] [(4, .bool (a6))] (by kernel_rfl) ?_
 refine EL.done (by kernel_rfl) ?_
 refine EQ.code ?_
 refine EW.ret (by kernel_rfl) ?_
 obtain rfl := Option.some.inj H
 exact EQ.leave (.bool (a6)) (by kernel_rfl) ⟨_, rfl, rfl, (hS.re [] [] rfl (sub_self))⟩

/-! ### confidant/image.Same: function 9 -/
def image_Same.l0 (K : Nat) (a0 : List (List S27)) (a1 : List (List S27)) (a8 : Bool → Option Bool) : Nat → Int → Option Bool
 | 0, _ => none
 | n + 1, a2 => if a2 < (a0.length : Int) then (if 0 ≤ a2 then (if a2 < (a1.length : Int) then (b1 (image_Same_1.f K (a0.getD a2.toNat []) (a1.getD a2.toNat [])) fun (b6 : Bool) => (if b6 = true then (image_Same.l0 K a0 a1 a8 n (IntKind.i64.wrap (a2 + 1))) else (a8 false))) else none) else none) else (a8 true)
def image_Same.f (K : Nat) (a0 : List (List S27)) (a1 : List (List S27)) : Option Bool := lt (fun (b0 : Bool) => (some b0)) fun a8 => (if (a0.length : Int) = (a1.length : Int) then (image_Same.l0 K a0 a1 a8 K 0) else (a8 false))
set_option maxRecDepth 100000 in
theorem image_Same.calls {K : Nat} {a0 : List (List S27)} {a1 : List (List S27)} {a6 : Option Addr} {a4 : Nat} {a5 : Option Addr} {a3 : Nat} {b9 : Bool} {B w : World} {os : List Ass} {rs : List Ro} (H : image_Same.f K a0 a1 = some b9) (hS : St B w (os) (Ro.sl (Kd.slice kS27) a6 a4 a0 :: Ro.sl (Kd.slice kS27) a5 a3 a1 :: rs)) :
  Calls Tryd.prog 9 [sv a6 a4 a0, sv a5 a3 a1].toArray w (fun en w' => ∃ v, en = .returned v ∧ v = .bool (b9) ∧ St B w' (os) (Ro.sl (Kd.slice kS27) a6 a4 a0 :: Ro.sl (Kd.slice kS27) a5 a3 a1 :: rs)) := by
 unfold image_Same.f at H
 refine calls_of_EW (args := [sv a6 a4 a0, sv a5 a3 a1]) (c := Cd9) 8 Tryd.func9 (by kernel_rfl) (by kernel_rfl) (by kernel_rfl) ?_
 refine EW.sq (by kernel_rfl) ?_
 refine EW.rg (by kernel_rfl) ?_
 refine EL.quick 1 [0, 1] [(0, sv a6 a4 a0), (1, sv a5 a3 a1)] (by kernel_rfl) ?_
 refine EL.done (by kernel_rfl) ?_
 refine EQ.code ?_
 refine EW.sq (by kernel_rfl) ?_
 refine EW.rg (by kernel_rfl) ?_
 refine EL.quick 2 [5, 6] [(5, sv a6 a4 a0), (6, sv a5 a3 a1)] (by kernel_rfl) ?_
 obtain ⟨a8, c4, H⟩ := lt_out H
 refine EL.of (EO.callD 21 [sv a6 a4 a0, sv a5 a3 a1, .func (.func 22) #[] #[]] (fun v w => ∃ b0 : Bool, v = .bool (b0) ∧ St B w (os) (Ro.sl (Kd.slice kS27) a6 a4 a0 :: Ro.sl (Kd.slice kS27) a5 a3 a1 :: rs) ∧ a8 b0 = some b9) 7 (by kernel_rfl) (by kernel_rfl) (by kernel_rfl) ?_ ?_)
 ·refine calls_of_EW (args := [sv a6 a4 a0, sv a5 a3 a1, .func (.func 22) #[] #[]]) (c := Cd21) 32 Tryd.func21 (by kernel_rfl) (by kernel_rfl) (by kernel_rfl) ?_
  refine EW.sq (by kernel_rfl) ?_
  refine EW.rg (by kernel_rfl) ?_
  refine EL.quick 1 [0, 1, 2] [(0, sv a6 a4 a0), (1, sv a5 a3 a1), (2, .func (.func 22) #[] #[])] (by kernel_rfl) ?_
  refine EL.done (by kernel_rfl) ?_
  refine EQ.code ?_
  refine EW.sq (by kernel_rfl) ?_
  refine EW.sq (by kernel_rfl) ?_
  refine EW.rg (by kernel_rfl) ?_
  refine EL.quick 5 [0, 1, 2, 14] [(0, sv a6 a4 a0), (1, sv a5 a3 a1), (2, .func (.func 22) #[] #[]), (14, .bool (!(decide ((a0.length : Int) = (a1.length : Int)))))] (by kernel_rfl) ?_
  refine EL.done (by kernel_rfl) ?_
  refine EQ.code ?_
  refine EW.cdQ (b := !(decide ((a0.length : Int) = (a1.length : Int)))) ((a0.length : Int) = (a1.length : Int)) (false) (by kernel_rfl) (by kernel_rfl) ⟨fun h => (by rw [decide_eq_true h] <;> rfl), fun h => (by rw [decide_eq_false h] <;> rfl)⟩ (fun c0 => ?_) (fun c0 => ?_)
  ·rw [if_pos c0] at H
   refine EW.skip (by kernel_rfl) ?_
   refine EQ.code ?_
   refine EW.sq (by kernel_rfl) ?_
   refine EW.sq (by kernel_rfl) ?_
   refine EW.rg (by kernel_rfl) ?_
   refine EL.quick 3 [1, 2, 15, 16, 17] [(1, sv a5 a3 a1), (2, .func (.func 22) #[] #[]), (15, sv a6 a4 a0), (16, ia (a0.length : Int)), (17, ia 0)] (by kernel_rfl) ?_
   refine EL.done (by kernel_rfl) ?_
   refine EQ.code ?_
   refine EW.bl 0 (by kernel_rfl) ?_
   refine EW.lp (fun n a w => ∃ a2 : Int, Sat 32 [(1, sv a5 a3 a1), (2, .func (.func 22) #[] #[]), (15, sv a6 a4 a0), (16, ia (a0.length : Int)), (17, ia a2)] a ∧ St B w (os) (Ro.sl (Kd.slice kS27) a6 a4 a0 :: Ro.sl (Kd.slice kS27) a5 a3 a1 :: rs) ∧ image_Same.l0 K a0 a1 a8 n a2 = some b9) K (by kernel_rfl) ?_ (fun n a w hI => ?_)
   ·refine EQ.keep [1, 2, 15, 16, 17] [(1, sv a5 a3 a1), (2, .func (.func 22) #[] #[]), (15, sv a6 a4 a0), (16, ia (a0.length : Int)), (17, ia 0)] (by kernel_rfl) ?_
    exact fun a ha => ⟨0, ha, (hS.re [] [] rfl (sub_cons 0 rfl (sub_cons 1 rfl (sub_tail (sub_tail (sub_self)))))), H⟩
   obtain ⟨a2, ha, hS, H⟩ := hI
   obtain _ | n := n
   ·simp [image_Same.l0] at H
   rw [image_Same.l0.eq_2] at H
   refine EW.at ?_ a ha
   clear ha a
   refine EW.sq (by kernel_rfl) ?_
   refine EW.rg (by kernel_rfl) ?_
   refine EL.quick 1 [1, 2, 15, 16, 17, 18] [(1, sv a5 a3 a1), (2, .func (.func 22) #[] #[]), (15, sv a6 a4 a0), (16, ia (a0.length : Int)), (17, ia a2), (18, .bool (decide (a2 < (a0.length : Int))))] (by kernel_rfl) ?_
   refine EL.done (by kernel_rfl) ?_
   refine EQ.code ?_
   refine EW.sq (by kernel_rfl) ?_
   refine EW.cdP (a2 < (a0.length : Int)) (by kernel_rfl) (by kernel_rfl) (fun b4 => ?_) (fun b4 => ?_)
   ·rw [if_pos b4] at H
    refine EW.skip (by kernel_rfl) ?_
    refine EQ.code ?_
    refine EW.sq (by kernel_rfl) ?_
    refine EW.bl 1 (by kernel_rfl) ?_
    refine EW.sq (by kernel_rfl) ?_
    refine EW.rg (by kernel_rfl) ?_
    refine EL.quick 1 [1, 2, 15, 16, 17, 19] [(1, sv a5 a3 a1), (2, .func (.func 22) #[] #[]), (15, sv a6 a4 a0), (16, ia (a0.length : Int)), (17, ia a2), (19, ia a2)] (by kernel_rfl) ?_
    obtain ⟨b5, H⟩ := ite_in H
    obtain ⟨a7, rfl⟩ := St.rd_some hS (Rd.ro 0 rfl) b5 b4
    refine EL.of (EO.Y (YO.idx 24 1 a7 a0.length a4 .i64 a2 20 (by kernel_rfl) (by kernel_rfl) (by kernel_rfl) (by kernel_rfl) b5 b4) ?_)
    refine EL.of (EO.loadSl hS kS27 a7 a4 a0 (Rd.ro 0 rfl) a2 b5 b4 25 21 (by kernel_rfl) (by kernel_rfl) (by kernel_rfl) (by kernel_rfl) ?_)
    intro b2 b3 hS
    refine EL.quick 2 [1, 2, 7, 8, 15, 16, 17] [(1, sv a5 a3 a1), (2, .func (.func 22) #[] #[]), (7, ia a2), (8, sv b2 b3 (a0.getD a2.toNat [])), (15, sv (some a7) a4 a0), (16, ia (a0.length : Int)), (17, ia a2)] (by kernel_rfl) ?_
    refine EL.done (by kernel_rfl) ?_
    refine EQ.code ?_
    refine EW.sq (by kernel_rfl) ?_
    refine EW.rg (by kernel_rfl) ?_
    refine EL.quick 2 [1, 2, 8, 15, 16, 17, 22, 23] [(1, sv a5 a3 a1), (2, .func (.func 22) #[] #[]), (8, sv b2 b3 (a0.getD a2.toNat [])), (15, sv (some a7) a4 a0), (16, ia (a0.length : Int)), (17, ia a2), (22, sv a5 a3 a1), (23, ia a2)] (by kernel_rfl) ?_
    obtain ⟨c1, H⟩ := ite_in H
    obtain ⟨a9, rfl⟩ := St.rd_some hS (Rd.ro 2 rfl) b5 c1
    refine EL.of (EO.Y (YO.idx 24 1 a9 a1.length a3 .i64 a2 24 (by kernel_rfl) (by kernel_rfl) (by kernel_rfl) (by kernel_rfl) b5 c1) ?_)
    refine EL.of (EO.loadSl hS kS27 a9 a3 a1 (Rd.ro 2 rfl) a2 b5 c1 25 25 (by kernel_rfl) (by kernel_rfl) (by kernel_rfl) (by kernel_rfl) ?_)
    intro b7 b8 hS
    refine EL.quick 1 [1, 2, 8, 9, 15, 16, 17] [(1, sv (some a9) a3 a1), (2, .func (.func 22) #[] #[]), (8, sv b2 b3 (a0.getD a2.toNat [])), (9, sv b7 b8 (a1.getD a2.toNat [])), (15, sv (some a7) a4 a0), (16, ia (a0.length : Int)), (17, ia a2)] (by kernel_rfl) ?_
    refine EL.done (by kernel_rfl) ?_
    refine EQ.code ?_
    refine EW.sq (by kernel_rfl) ?_
    refine EW.rg (by kernel_rfl) ?_
    refine EL.quick 3 [1, 2, 15, 16, 17, 26, 27, 28] [(1, sv (some a9) a3 a1), (2, .func (.func 22) #[] #[]), (15, sv (some a7) a4 a0), (16, ia (a0.length : Int)), (17, ia a2), (26, .func (.func 22) #[] #[]), (27, sv b2 b3 (a0.getD a2.toNat [])), (28, sv b7 b8 (a1.getD a2.toNat []))] (by kernel_rfl) ?_
    have hS : St B _ (os) (Ro.sl kS27 b2 b3 (a0.getD a2.toNat []) :: Ro.sl kS27 b7 b8 (a1.getD a2.toNat []) :: Ro.sl (Kd.slice kS27) (some a7) a4 a0 :: Ro.sl (Kd.slice kS27) (some a9) a3 a1 :: rs) := hS.re [] [] rfl (sub_cons 1 rfl (sub_cons 0 rfl (sub_tail (sub_tail (sub_self)))))
    obtain ⟨b6, c3, H⟩ := b1_out H
    have hq := image_Same_1.calls c3 hS
    refine EL.of (EO.callD 22 [sv b2 b3 (a0.getD a2.toNat []), sv b7 b8 (a1.getD a2.toNat [])] _ 29 (by kernel_rfl) (by kernel_rfl) (by kernel_rfl) hq ?_)
    rintro v w ⟨rfl, hS⟩
    refine EL.quick 1 [1, 2, 15, 16, 17, 30] [(1, sv (some a9) a3 a1), (2, .func (.func 22) #[] #[]), (15, sv (some a7) a4 a0), (16, ia (a0.length : Int)), (17, ia a2), (30, .bool (!(b6)))] (by kernel_rfl) ?_
    refine EL.done (by kernel_rfl) ?_
    refine EQ.code ?_
    refine EW.cdQ (b := !(b6)) (b6 = true) (false) (by kernel_rfl) (by kernel_rfl) ⟨fun h => (by rw [h] <;> rfl), fun h => (by rw [Bool.eq_false_iff.2 h] <;> rfl)⟩ (fun c2 => ?_) (fun c2 => ?_)
    ·rw [if_pos c2] at H
     refine EW.skip (by kernel_rfl) ?_
     refine EQ.pop ?_
     refine EQ.code ?_
     refine EW.rg (by kernel_rfl) ?_
     refine EL.quick 2 [1, 2, 15, 16, 17] [(1, sv (some a9) a3 a1), (2, .func (.func 22) #[] #[]), (15, sv (some a7) a4 a0), (16, ia (a0.length : Int)), (17, ia (IntKind.i64.wrap (a2 + 1)))] (by kernel_rfl) ?_
     refine EL.done (by kernel_rfl) ?_
     refine EQ.to ?_
     refine EQ.keep [1, 2, 15, 16, 17] [(1, sv (some a9) a3 a1), (2, .func (.func 22) #[] #[]), (15, sv (some a7) a4 a0), (16, ia (a0.length : Int)), (17, ia (IntKind.i64.wrap (a2 + 1)))] (by kernel_rfl) ?_
     exact fun a ha => ⟨n, Nat.lt_succ_self n, IntKind.i64.wrap (a2 + 1), ha, (hS.re [] [] rfl (sub_cons 2 rfl (sub_cons 3 rfl (sub_tail (sub_tail (sub_tail (sub_tail (sub_self)))))))), H⟩
    rw [if_neg c2] at H
    refine EW.sq (by kernel_rfl) ?_
    refine EW.rg (by kernel_rfl) ?_
    refine EL.quick 1 [6] [(6, .bool (false))] (by kernel_rfl) ?_
    refine EL.done (by kernel_rfl) ?_
    refine EQ.code ?_
    refine EW.ret (by kernel_rfl) ?_
    refine EQ.ret ?_
    refine EQ.ret ?_
    refine EQ.ret ?_
    refine EQ.ret ?_
    refine EQ.ret ?_
    exact EQ.leave (.bool (false)) (by kernel_rfl) ⟨_, rfl, false, rfl, (hS.re [] [] rfl (sub_cons 2 rfl (sub_cons 3 rfl (sub_tail (sub_tail (sub_tail (sub_tail (sub_self)))))))), H⟩
   rw [if_neg b4] at H
   refine EW.exit (id := 0) (by kernel_rfl) ?_
   refine EQ.exitCode ?_
   refine EQ.exitTo ?_
   refine EQ.exitHere ?_
   refine EQ.code ?_
   refine EW.sq (by kernel_rfl) ?_
   refine EW.rg (by kernel_rfl) ?_
   refine EL.quick 1 [6] [(6, .bool (true))] (by kernel_rfl) ?_
   refine EL.done (by kernel_rfl) ?_
   refine EQ.code ?_
   refine EW.ret (by kernel_rfl) ?_
   exact EQ.leave (.bool (true)) (by kernel_rfl) ⟨_, rfl, true, rfl, (hS.re [] [] rfl (sub_cons 0 rfl (sub_cons 1 rfl (sub_tail (sub_tail (sub_self)))))), H⟩
  rw [if_neg c0] at H
  refine EW.sq (by kernel_rfl) ?_
  refine EW.rg (by kernel_rfl) ?_
  refine EL.quick 1 [6] [(6, .bool (false))] (by kernel_rfl) ?_
  refine EL.done (by kernel_rfl) ?_
  refine EQ.code ?_
  refine EW.ret (by kernel_rfl) ?_
  refine EQ.ret ?_
  exact EQ.leave (.bool (false)) (by kernel_rfl) ⟨_, rfl, false, rfl, (hS.re [] [] rfl (sub_cons 0 rfl (sub_cons 1 rfl (sub_tail (sub_tail (sub_self)))))), H⟩
 ·rintro v w ⟨b0, rfl, hS, H⟩
  rw [c4] at H
  (try dsimp only at H)
  refine EL.quick 1 [4] [(4, .bool (b0))] (by kernel_rfl) ?_
  refine EL.done (by kernel_rfl) ?_
  refine EQ.code ?_
  refine EW.ret (by kernel_rfl) ?_
  obtain rfl := Option.some.inj H
  exact EQ.leave (.bool (b0)) (by kernel_rfl) ⟨_, rfl, rfl, (hS.re [] [] rfl (sub_self))⟩

/-! ### confidant/image.Text: function 10 -/
def image_Text.l1 (K : Nat) (a0 : List (List S27)) (a1 : Int) (b4 : ByteArray → Option ByteArray) : Nat → ByteArray → Int → Option ByteArray
 | 0, _, _ => none
 | n + 1, a8, a2 => if a2 < ((a0.getD a1.toNat []).length : Int) then (if 0 ≤ a2 then (b1 (instr_Text.f K (((a0.getD a1.toNat []).getD a2.toNat zS27).f0) (((a0.getD a1.toNat []).getD a2.toNat zS27).f1)) fun (b7 : ByteArray) => (if b7.size + (⟨#[10]⟩ : ByteArray).size ≤ 9223372036854775807 then (if a8.size + (b7 ++ (⟨#[10]⟩ : ByteArray)).size ≤ 140737488355328 then (lt (a8 ++ (b7 ++ (⟨#[10]⟩ : ByteArray))) fun c4 => (image_Text.l1 K a0 a1 b4 n c4 (IntKind.i64.wrap (a2 + 1)))) else none) else none)) else none) else (b4 a8)
def image_Text.l0 (K : Nat) (a0 : List (List S27)) (b3 : ByteArray → Option ByteArray) : Nat → ByteArray → Int → Option ByteArray
 | 0, _, _ => none
 | n + 1, a9, a1 => if a1 < (a0.length : Int) then (lt (fun (b9 : ByteArray) => (image_Text.l0 K a0 b3 n b9 (IntKind.i64.wrap (a1 + 1)))) fun b4 => (if 0 ≤ a1 then (if a9.size + (⟨#[102, 117, 110, 99, 10]⟩ : ByteArray).size ≤ 140737488355328 then (lt (a9 ++ (⟨#[102, 117, 110, 99, 10]⟩ : ByteArray)) fun c3 => (image_Text.l1 K a0 a1 b4 K c3 0)) else none) else none)) else (b3 a9)
def image_Text.f (K : Nat) (a0 : List (List S27)) : Option ByteArray := lt (fun (b0 : ByteArray) => (some b0)) fun b3 => (image_Text.l0 K a0 b3 K (⟨#[]⟩ : ByteArray) 0)
set_option maxRecDepth 100000 in
theorem image_Text.calls {K : Nat} {a0 : List (List S27)} {a5 : Option Addr} {a3 : Nat} {b8 : ByteArray} {B w : World} {os : List Ass} {rs : List Ro} (H : image_Text.f K a0 = some b8) (hS : St B w (os) (Ro.sl (Kd.slice kS27) a5 a3 a0 :: rs)) (gB : Glob B) :
  Calls Tryd.prog 10 [sv a5 a3 a0].toArray w (fun en w' => ∃ v, en = .returned v ∧ v = .string b8 ∧ St B w' (os) (Ro.sl (Kd.slice kS27) a5 a3 a0 :: rs)) := by
 unfold image_Text.f at H
 refine bld_entry hS fun B os hB hos h0b hS1 => ?_
 have gB : Glob B := by rw [hB]; exact Glob.of hS gB
 have hS := hS1
 refine calls_of_EW (args := [sv a5 a3 a0]) (c := Cd10) 28 Tryd.func10 (by kernel_rfl) (by kernel_rfl) (by kernel_rfl) ?_
 refine EW.sq (by kernel_rfl) ?_
 refine EW.rg (by kernel_rfl) ?_
 refine EL.quick 1 [0] [(0, sv a5 a3 a0)] (by kernel_rfl) ?_
 refine EL.done (by kernel_rfl) ?_
 refine EQ.code ?_
 refine EW.sq (by kernel_rfl) ?_
 refine EW.rg (by kernel_rfl) ?_
 refine EL.of (EO.bld hS 58 5 (.agg #[.pointer none, .slice none 0 0]) 3 (by kernel_rfl) (by kernel_rfl) (by kernel_rfl) (by kernel_rfl) rfl ?_)
 intro a4 w hS
 refine EL.done (by kernel_rfl) ?_
 refine EQ.code ?_
 obtain ⟨b3, d0, H⟩ := lt_out H
 refine EW.ct (fun a w => ∃ b0 : ByteArray, Sat 28 [(3, pt a4 0)] a ∧ St B w (Ass.bld 58 5 a4 b0 :: os) (Ro.sl (Kd.slice kS27) a5 a3 a0 :: rs) ∧ b3 b0 = some b8) (by kernel_rfl) ?_ (fun a w hI => ?_)
 ·refine EW.sq (by kernel_rfl) ?_
  refine EW.rg (by kernel_rfl) ?_
  refine EL.quick 3 [3, 8, 9, 10] [(3, pt a4 0), (8, sv a5 a3 a0), (9, ia (a0.length : Int)), (10, ia 0)] (by kernel_rfl) ?_
  refine EL.done (by kernel_rfl) ?_
  refine EQ.code ?_
  refine EW.bl 0 (by kernel_rfl) ?_
  refine EW.lp (fun n a w => ∃ a9 : ByteArray, ∃ a1 : Int, Sat 28 [(3, pt a4 0), (8, sv a5 a3 a0), (9, ia (a0.length : Int)), (10, ia a1)] a ∧ St B w (Ass.bld 58 5 a4 a9 :: os) (Ro.sl (Kd.slice kS27) a5 a3 a0 :: rs) ∧ image_Text.l0 K a0 b3 n a9 a1 = some b8) K (by kernel_rfl) ?_ (fun n a w hI => ?_)
  ·refine EQ.keep [3, 8, 9, 10] [(3, pt a4 0), (8, sv a5 a3 a0), (9, ia (a0.length : Int)), (10, ia 0)] (by kernel_rfl) ?_
   exact fun a ha => ⟨(⟨#[]⟩ : ByteArray), 0, ha, (hS.re [0] [] rfl (sub_cons 0 rfl (sub_tail (sub_self)))), H⟩
  obtain ⟨a9, a1, ha, hS, H⟩ := hI
  obtain _ | n := n
  ·simp [image_Text.l0] at H
  rw [image_Text.l0.eq_2] at H
  refine EW.at ?_ a ha
  clear ha a
  refine EW.sq (by kernel_rfl) ?_
  refine EW.rg (by kernel_rfl) ?_
  refine EL.quick 1 [3, 8, 9, 10, 11] [(3, pt a4 0), (8, sv a5 a3 a0), (9, ia (a0.length : Int)), (10, ia a1), (11, .bool (decide (a1 < (a0.length : Int))))] (by kernel_rfl) ?_
  refine EL.done (by kernel_rfl) ?_
  refine EQ.code ?_
  refine EW.sq (by kernel_rfl) ?_
  refine EW.cdP (a1 < (a0.length : Int)) (by kernel_rfl) (by kernel_rfl) (fun b5 => ?_) (fun b5 => ?_)
  ·rw [if_pos b5] at H
   refine EW.skip (by kernel_rfl) ?_
   refine EQ.code ?_
   obtain ⟨b4, d1, H⟩ := lt_out H
   refine EW.ct (fun a w => ∃ b9 : ByteArray, Sat 28 [(3, pt a4 0), (8, sv a5 a3 a0), (9, ia (a0.length : Int)), (10, ia a1)] a ∧ St B w (Ass.bld 58 5 a4 b9 :: os) (Ro.sl (Kd.slice kS27) a5 a3 a0 :: rs) ∧ b4 b9 = some b8) (by kernel_rfl) ?_ (fun a w hI => ?_)
   ·refine EW.bl 1 (by kernel_rfl) ?_
    refine EW.sq (by kernel_rfl) ?_
    refine EW.rg (by kernel_rfl) ?_
    obtain ⟨c1, H⟩ := ite_in H
    obtain ⟨a6, rfl⟩ := St.rd_some hS (Rd.ro 0 rfl) c1 b5
    refine EL.of (EO.Y (YO.idx 24 1 a6 a0.length a3 .i64 a1 12 (by kernel_rfl) (by kernel_rfl) (by kernel_rfl) (by kernel_rfl) c1 b5) ?_)
    refine EL.of (EO.loadSl2 h0b hS kS27 a6 a3 a0 (Rd.ro 0 rfl) a1 c1 b5 25 13 (by kernel_rfl) (by kernel_rfl) (by kernel_rfl) (by kernel_rfl) ?_)
    intro b2 a7 h0b hS
    refine EL.quick 1 [3, 5, 8, 9, 10] [(3, pt a4 0), (5, sv b2 a7 (a0.getD a1.toNat [])), (8, sv (some a6) a3 a0), (9, ia (a0.length : Int)), (10, ia a1)] (by kernel_rfl) ?_
    refine EL.done (by kernel_rfl) ?_
    refine EQ.code ?_
    refine EW.sq (by kernel_rfl) ?_
    refine EW.rg (by kernel_rfl) ?_
    have hS : St B w (Ass.bld 58 5 a4 a9 :: os) (Ro.sl kS27 b2 a7 (a0.getD a1.toNat []) :: Ro.sl (Kd.slice kS27) (some a6) a3 a0 :: rs) := hS.re [0] [] rfl sub_self
    obtain ⟨c6, H⟩ := ite_in H
    obtain ⟨c3, d2, H⟩ := lt_out H
    have hq := Door.Builder_WriteString h0b hS (noRow_nil hos) d2 c6
    refine EL.of (EO.callD 24 [.pointer (some ⟨a4, 0, none⟩), .string (⟨#[102, 117, 110, 99, 10]⟩ : ByteArray)] _ 14 (by kernel_rfl) (by kernel_rfl) (by kernel_rfl) hq ?_)
    rintro v w ⟨rfl, hS⟩
    refine EL.done (by kernel_rfl) ?_
    refine EQ.code ?_
    refine EW.sq (by kernel_rfl) ?_
    refine EW.rg (by kernel_rfl) ?_
    refine EL.quick 3 [3, 8, 9, 10, 15, 16, 17] [(3, pt a4 0), (8, sv (some a6) a3 a0), (9, ia (a0.length : Int)), (10, ia a1), (15, sv b2 a7 (a0.getD a1.toNat [])), (16, ia ((a0.getD a1.toNat []).length : Int)), (17, ia 0)] (by kernel_rfl) ?_
    refine EL.done (by kernel_rfl) ?_
    refine EQ.code ?_
    refine EW.bl 2 (by kernel_rfl) ?_
    refine EW.lp (fun n a w => ∃ a8 : ByteArray, ∃ a2 : Int, Sat 28 [(3, pt a4 0), (8, sv (some a6) a3 a0), (9, ia (a0.length : Int)), (10, ia a1), (15, sv b2 a7 (a0.getD a1.toNat [])), (16, ia ((a0.getD a1.toNat []).length : Int)), (17, ia a2)] a ∧ St B w (Ass.bld 58 5 a4 a8 :: os) (Ro.sl kS27 b2 a7 (a0.getD a1.toNat []) :: Ro.sl (Kd.slice kS27) (some a6) a3 a0 :: rs) ∧ image_Text.l1 K a0 a1 b4 n a8 a2 = some b8) K (by kernel_rfl) ?_ (fun n a w hI => ?_)
    ·refine EQ.keep [3, 8, 9, 10, 15, 16, 17] [(3, pt a4 0), (8, sv (some a6) a3 a0), (9, ia (a0.length : Int)), (10, ia a1), (15, sv b2 a7 (a0.getD a1.toNat [])), (16, ia ((a0.getD a1.toNat []).length : Int)), (17, ia 0)] (by kernel_rfl) ?_
     exact fun a ha => ⟨c3, 0, ha, (hS.re [0] [] rfl (sub_cons 0 rfl (sub_cons 1 rfl (sub_tail (sub_tail (sub_self)))))), H⟩
    obtain ⟨a8, a2, ha, hS, H⟩ := hI
    obtain _ | n := n
    ·simp [image_Text.l1] at H
    rw [image_Text.l1.eq_2] at H
    refine EW.at ?_ a ha
    clear ha a
    refine EW.sq (by kernel_rfl) ?_
    refine EW.rg (by kernel_rfl) ?_
    refine EL.quick 1 [3, 8, 9, 10, 15, 16, 17, 18] [(3, pt a4 0), (8, sv (some a6) a3 a0), (9, ia (a0.length : Int)), (10, ia a1), (15, sv b2 a7 (a0.getD a1.toNat [])), (16, ia ((a0.getD a1.toNat []).length : Int)), (17, ia a2), (18, .bool (decide (a2 < ((a0.getD a1.toNat []).length : Int))))] (by kernel_rfl) ?_
    refine EL.done (by kernel_rfl) ?_
    refine EQ.code ?_
    refine EW.sq (by kernel_rfl) ?_
    refine EW.cdP (a2 < ((a0.getD a1.toNat []).length : Int)) (by kernel_rfl) (by kernel_rfl) (fun b6 => ?_) (fun b6 => ?_)
    ·rw [if_pos b6] at H
     refine EW.skip (by kernel_rfl) ?_
     refine EQ.code ?_
     refine EW.sq (by kernel_rfl) ?_
     refine EW.bl 3 (by kernel_rfl) ?_
     refine EW.sq (by kernel_rfl) ?_
     refine EW.rg (by kernel_rfl) ?_
     obtain ⟨c2, H⟩ := ite_in H
     obtain ⟨c0, rfl⟩ := St.rd_some hS (Rd.ro 0 rfl) c2 b6
     refine EL.of (EO.Y (YO.idx 25 2 c0 (a0.getD a1.toNat []).length a7 .i64 a2 19 (by kernel_rfl) (by kernel_rfl) (by kernel_rfl) (by kernel_rfl) c2 b6) ?_)
     refine EL.of (EO.Y (YO.loadEl hS kS27 c0 a7 (a0.getD a1.toNat []) (Rd.ro 0 rfl) zS27 encS27 encS27_of a2 c2 b6 27 2 0 2 rfl (ag [ia (((a0.getD a1.toNat []).getD a2.toNat zS27).f0), ib (((a0.getD a1.toNat []).getD a2.toNat zS27).f1)]) 20 (by kernel_rfl) (by kernel_rfl) (by kernel_rfl) (by kernel_rfl)) ?_)
     refine EL.of (EO.alloc hS 27 (ag [ia 0, ib 0]) [ia 0, ib 0] 7 (by kernel_rfl) (by kernel_rfl) (by kernel_rfl) (by kernel_rfl) (by first | rfl | kernel_rfl) ?_)
     intro c5 w hS
     refine EL.of (EO.storeBox (os' := Ass.box 27 c5 [ia (((a0.getD a1.toNat []).getD a2.toNat zS27).f0), ib (((a0.getD a1.toNat []).getD a2.toNat zS27).f1)] :: Ass.bld 58 5 a4 a8 :: os) hS 0 rfl 27 0 (ag [ia (((a0.getD a1.toNat []).getD a2.toNat zS27).f0), ib (((a0.getD a1.toNat []).getD a2.toNat zS27).f1)]) [ia (((a0.getD a1.toNat []).getD a2.toNat zS27).f0), ib (((a0.getD a1.toNat []).getD a2.toNat zS27).f1)] (by kernel_rfl) (by kernel_rfl) (by kernel_rfl) (by kernel_rfl) (by kernel_rfl) (by kernel_rfl) rfl rfl ?_)
     intro w hS
     refine EL.done (by kernel_rfl) ?_
     refine EQ.code ?_
     refine EW.rg (by kernel_rfl) ?_
     refine EL.of (EO.Y (YO.loadBox hS 0 rfl 27 0 2 (ag [ia (((a0.getD a1.toNat []).getD a2.toNat zS27).f0), ib (((a0.getD a1.toNat []).getD a2.toNat zS27).f1)]) 21 (by kernel_rfl) (by kernel_rfl) (by kernel_rfl) (by kernel_rfl)) ?_)
     obtain ⟨b7, c9, H⟩ := b1_out H
     have hq := instr_Text.calls c9 hS gB
     refine EL.of (EO.callD 25 [ag [ia (((a0.getD a1.toNat []).getD a2.toNat zS27).f0), ib (((a0.getD a1.toNat []).getD a2.toNat zS27).f1)]] _ 22 (by kernel_rfl) (by kernel_rfl) (by kernel_rfl) hq ?_)
     rintro v w ⟨rfl, hS⟩
     obtain ⟨c7, H⟩ := ite_in H
     refine EL.of (EO.Y (YO.strCat b7 (⟨#[10]⟩ : ByteArray) 23 (by kernel_rfl) (by kernel_rfl) (by kernel_rfl) c7) ?_)
     have hS : St B w (Ass.bld 58 5 a4 a8 :: Ass.box 27 c5 [ia (((a0.getD a1.toNat []).getD a2.toNat zS27).f0), ib (((a0.getD a1.toNat []).getD a2.toNat zS27).f1)] :: os) (Ro.sl kS27 (some c0) a7 (a0.getD a1.toNat []) :: Ro.sl (Kd.slice kS27) (some a6) a3 a0 :: rs) := hS.re [0, 1] [] rfl sub_self
     obtain ⟨c8, H⟩ := ite_in H
     obtain ⟨c4, d3, H⟩ := lt_out H
     have hq := Door.Builder_WriteString h0b hS (noRow_cons (by decide) (noRow_nil hos)) d3 c8
     refine EL.of (EO.callD 24 [.pointer (some ⟨a4, 0, none⟩), .string (b7 ++ (⟨#[10]⟩ : ByteArray))] _ 24 (by kernel_rfl) (by kernel_rfl) (by kernel_rfl) hq ?_)
     rintro v w ⟨rfl, hS⟩
     refine EL.done (by kernel_rfl) ?_
     refine EQ.pop ?_
     refine EQ.code ?_
     refine EW.rg (by kernel_rfl) ?_
     refine EL.quick 2 [3, 8, 9, 10, 15, 16, 17] [(3, pt a4 0), (8, sv (some a6) a3 a0), (9, ia (a0.length : Int)), (10, ia a1), (15, sv (some c0) a7 (a0.getD a1.toNat [])), (16, ia ((a0.getD a1.toNat []).length : Int)), (17, ia (IntKind.i64.wrap (a2 + 1)))] (by kernel_rfl) ?_
     refine EL.done (by kernel_rfl) ?_
     refine EQ.to ?_
     refine EQ.keep [3, 8, 9, 10, 15, 16, 17] [(3, pt a4 0), (8, sv (some a6) a3 a0), (9, ia (a0.length : Int)), (10, ia a1), (15, sv (some c0) a7 (a0.getD a1.toNat [])), (16, ia ((a0.getD a1.toNat []).length : Int)), (17, ia (IntKind.i64.wrap (a2 + 1)))] (by kernel_rfl) ?_
     exact fun a ha => ⟨n, Nat.lt_succ_self n, c4, IntKind.i64.wrap (a2 + 1), ha, (hS.re [0] [1] rfl (sub_cons 0 rfl (sub_cons 1 rfl (sub_tail (sub_tail (sub_self)))))), H⟩
    rw [if_neg b6] at H
    refine EW.exit (id := 2) (by kernel_rfl) ?_
    refine EQ.exitCode ?_
    refine EQ.exitTo ?_
    refine EQ.exitHere ?_
    refine EQ.pop ?_
    refine EQ.to ?_
    refine EQ.keep [3, 8, 9, 10] [(3, pt a4 0), (8, sv (some a6) a3 a0), (9, ia (a0.length : Int)), (10, ia a1)] (by kernel_rfl) ?_
    exact fun a ha => ⟨a8, ha, (hS.re [0] [] rfl (sub_cons 1 rfl (sub_tail (sub_tail (sub_self))))), H⟩
   obtain ⟨b9, ha, hS, H⟩ := hI
   rw [d1] at H
   (try dsimp only at H)
   refine EW.at ?_ a ha
   clear ha a
   refine EW.rg (by kernel_rfl) ?_
   refine EL.quick 2 [3, 8, 9, 10] [(3, pt a4 0), (8, sv a5 a3 a0), (9, ia (a0.length : Int)), (10, ia (IntKind.i64.wrap (a1 + 1)))] (by kernel_rfl) ?_
   refine EL.done (by kernel_rfl) ?_
   refine EQ.to ?_
   refine EQ.keep [3, 8, 9, 10] [(3, pt a4 0), (8, sv a5 a3 a0), (9, ia (a0.length : Int)), (10, ia (IntKind.i64.wrap (a1 + 1)))] (by kernel_rfl) ?_
   exact fun a ha => ⟨n, Nat.lt_succ_self n, b9, IntKind.i64.wrap (a1 + 1), ha, (hS.re [0] [] rfl (sub_cons 0 rfl (sub_tail (sub_self)))), H⟩
  rw [if_neg b5] at H
  refine EW.exit (id := 0) (by kernel_rfl) ?_
  refine EQ.exitCode ?_
  refine EQ.exitTo ?_
  refine EQ.exitHere ?_
  refine EQ.to ?_
  refine EQ.keep [3] [(3, pt a4 0)] (by kernel_rfl) ?_
  exact fun a ha => ⟨a9, ha, (hS.re [0] [] rfl (sub_cons 0 rfl (sub_tail (sub_self)))), H⟩
 obtain ⟨b0, ha, hS, H⟩ := hI
 rw [d0] at H
 (try dsimp only at H)
 refine EW.at ?_ a ha
 clear ha a
 refine EW.sq (by kernel_rfl) ?_
 refine EW.rg (by kernel_rfl) ?_
 have hS : St B w (Ass.bld 58 5 a4 b0 :: os) (Ro.sl (Kd.slice kS27) a5 a3 a0 :: rs) := hS.re [0] [] rfl sub_self
 have hq := Door.Builder_String h0b hS (noRow_nil hos)
 refine EL.of (EO.callD 26 [.pointer (some ⟨a4, 0, none⟩)] _ 27 (by kernel_rfl) (by kernel_rfl) (by kernel_rfl) hq ?_)
 rintro v w ⟨rfl, hS⟩
 refine EL.quick 1 [2] [(2, .string b0)] (by kernel_rfl) ?_
 refine EL.done (by kernel_rfl) ?_
 refine EQ.code ?_
 refine EW.ret (by kernel_rfl) ?_
 obtain rfl := Option.some.inj H
 exact EQ.leave (.string b0) (by kernel_rfl) ⟨_, rfl, rfl, (hS.re [] [] rfl (sub_self))⟩

/-! ### confidant/confidantlaw7.known: function 5 -/
def confidantlaw7_known.f (K : Nat)  : Option Bool := b3 (image_Parse.f K (⟨#[102, 117, 110, 99, 10, 112, 117, 115, 104, 32, 49, 10, 114, 101, 116, 10, 10, 102, 117, 110, 99, 10, 102, 97, 105, 108, 32, 51]⟩ : ByteArray)) fun (a0 : List (List S27)) (b5 : Int) (b0 : Int) => (b2 (image_Put.f K a0) fun (b6 : List Int) (a9 : Int) => (b2 (pack_New.f K b6) fun (b9 : List Int) (d6 : Int) => (b4 (image_Take.f K b9 d6) fun (c1 : List Int) (d7 : Int) (a5 : List (List S27)) (a8 : Bool) => (b3 (image_Parse.f K (⟨#[10, 114, 101, 116]⟩ : ByteArray)) fun (d8 : List (List S27)) (a4 : Int) (a3 : Int) => (if b5 = 0 then (if b0 = 0 then (if a9 = 0 then (if a8 = true then (b1 (image_Same.f K a5 a0) fun (c0 : Bool) => (if c0 = true then (if (a0.length : Int) = 2 then (if a4 = 1 then (if a3 = 24 then (b1 (image_Text.f K a0) fun (d5 : ByteArray) => (some (d5.toList == (⟨#[102, 117, 110, 99, 10, 112, 117, 115, 104, 32, 49, 10, 114, 101, 116, 10, 102, 117, 110, 99, 10, 102, 97, 105, 108, 32, 51, 10]⟩ : ByteArray).toList))) else (some false)) else (some false)) else (some false)) else (some false))) else (some false)) else (some false)) else (some false)) else (some false))))))
set_option maxRecDepth 100000 in
theorem confidantlaw7_known.calls {K : Nat} {e1 : Bool} {B w : World} {os : List Ass} {rs : List Ro} (H : confidantlaw7_known.f K = some e1) (hS : St B w (os) (rs)) (gB : Glob B) :
  Calls Tryd.prog 5 [].toArray w (fun en w' => ∃ v, en = .returned v ∧ v = .bool (e1) ∧ St B w' (os) (rs)) := by
 unfold confidantlaw7_known.f at H
 refine calls_of_EW (args := []) (c := Cd5) 68 Tryd.func5 (by kernel_rfl) (by kernel_rfl) (by kernel_rfl) ?_
 refine EW.sq (by kernel_rfl) ?_
 refine EW.rg (by kernel_rfl) ?_
 refine EL.quick 1 [] [] (by kernel_rfl) ?_
 refine EL.done (by kernel_rfl) ?_
 refine EQ.code ?_
 refine EW.sq (by kernel_rfl) ?_
 refine EW.rg (by kernel_rfl) ?_
 obtain ⟨a0, b5, b0, e2, H⟩ := b3_out H
 have hq := image_Parse.calls e2 hS gB
 refine EL.of (EO.callD 7 [.string (⟨#[102, 117, 110, 99, 10, 112, 117, 115, 104, 32, 49, 10, 114, 101, 116, 10, 10, 102, 117, 110, 99, 10, 102, 97, 105, 108, 32, 51]⟩ : ByteArray)] _ 12 (by kernel_rfl) (by kernel_rfl) (by kernel_rfl) hq ?_)
 rintro v w ⟨a1, a2, rfl, hS⟩
 refine EL.quick 7 [1, 2, 3] [(1, sv a1 a2 a0), (2, ia b5), (3, ia b0)] (by kernel_rfl) ?_
 refine EL.done (by kernel_rfl) ?_
 refine EQ.code ?_
 refine EW.sq (by kernel_rfl) ?_
 refine EW.rg (by kernel_rfl) ?_
 refine EL.quick 1 [1, 2, 3, 17] [(1, sv a1 a2 a0), (2, ia b5), (3, ia b0), (17, sv a1 a2 a0)] (by kernel_rfl) ?_
 have hS := St.frDeep hS 0 rfl
 have hS : St B _ (os) (Ro.sl (Kd.slice kS27) a1 a2 a0 :: rs) := hS.re [] [] rfl (sub_cons 0 rfl (sub_tail (sub_self)))
 obtain ⟨b6, a9, e3, H⟩ := b2_out H
 have hq := image_Put.calls e3 hS
 refine EL.of (EO.callD 6 [sv a1 a2 a0] _ 18 (by kernel_rfl) (by kernel_rfl) (by kernel_rfl) hq ?_)
 rintro v w ⟨b7, b8, rfl, hS⟩
 refine EL.quick 5 [1, 2, 3, 4, 5] [(1, sv a1 a2 a0), (2, ia b5), (3, ia b0), (4, sv b7 b8 b6), (5, ia a9)] (by kernel_rfl) ?_
 refine EL.done (by kernel_rfl) ?_
 refine EQ.code ?_
 refine EW.sq (by kernel_rfl) ?_
 refine EW.rg (by kernel_rfl) ?_
 refine EL.quick 1 [1, 2, 3, 5, 22] [(1, sv a1 a2 a0), (2, ia b5), (3, ia b0), (5, ia a9), (22, sv b7 b8 b6)] (by kernel_rfl) ?_
 have hS := St.fr hS 0 rfl
 have hS : St B _ (os) (Ro.sl (Kd.int .u8) b7 b8 b6 :: Ro.sl (Kd.slice kS27) a1 a2 a0 :: rs) := hS.re [] [] rfl (sub_cons 0 rfl (sub_tail (sub_self)))
 obtain ⟨b9, d6, e4, H⟩ := b2_out H
 have hq := pack_New.calls e4 hS
 refine EL.of (EO.callD 12 [sv b7 b8 b6] _ 23 (by kernel_rfl) (by kernel_rfl) (by kernel_rfl) hq ?_)
 rintro v w ⟨c6, c2, c4, rfl, hS⟩
 have hS : St B _ (Ass.box 69 c6 [sv c2 c4 b9, ia d6] :: os) (Ro.sl (Kd.int .u8) c2 c4 b9 :: Ro.sl (Kd.int .u8) b7 b8 b6 :: Ro.sl (Kd.slice kS27) a1 a2 a0 :: rs) := hS.re [0] [] rfl (sub_cons 0 rfl (sub_tail (sub_self)))
 obtain ⟨c1, d7, a5, a8, e5, H⟩ := b4_out H
 have hq := image_Take.calls e5 hS
 refine EL.of (EO.callD 11 [pt c6 0] _ 24 (by kernel_rfl) (by kernel_rfl) (by kernel_rfl) hq ?_)
 rintro v w ⟨c3, c5, a6, a7, rfl, hS⟩
 refine EL.quick 5 [1, 2, 3, 5, 6, 7] [(1, sv a1 a2 a0), (2, ia b5), (3, ia b0), (5, ia a9), (6, sv a6 a7 a5), (7, .bool (a8))] (by kernel_rfl) ?_
 refine EL.done (by kernel_rfl) ?_
 refine EQ.code ?_
 refine EW.sq (by kernel_rfl) ?_
 refine EW.rg (by kernel_rfl) ?_
 obtain ⟨d8, a4, a3, e6, H⟩ := b3_out H
 have hq := image_Parse.calls e6 hS gB
 refine EL.of (EO.callD 7 [.string (⟨#[10, 114, 101, 116]⟩ : ByteArray)] _ 28 (by kernel_rfl) (by kernel_rfl) (by kernel_rfl) hq ?_)
 rintro v w ⟨d9, e0, rfl, hS⟩
 refine EL.quick 7 [1, 2, 3, 5, 6, 7, 9, 10] [(1, sv a1 a2 a0), (2, ia b5), (3, ia b0), (5, ia a9), (6, sv a6 a7 a5), (7, .bool (a8)), (9, ia a4), (10, ia a3)] (by kernel_rfl) ?_
 refine EL.done (by kernel_rfl) ?_
 refine EQ.code ?_
 refine EW.sq (by kernel_rfl) ?_
 refine EW.rg (by kernel_rfl) ?_
 refine EL.quick 3 [1, 3, 5, 6, 7, 9, 10, 34] [(1, sv a1 a2 a0), (3, ia b0), (5, ia a9), (6, sv a6 a7 a5), (7, .bool (a8)), (9, ia a4), (10, ia a3), (34, .bool (decide (b5 = 0)))] (by kernel_rfl) ?_
 by_cases c7 : b5 = 0
 ·rw [if_pos c7] at H
  refine EL.keep [1, 3, 5, 6, 7, 9, 10, 34] [(1, sv a1 a2 a0), (3, ia b0), (5, ia a9), (6, sv a6 a7 a5), (7, .bool (a8)), (9, ia a4), (10, ia a3), (34, .bool (decide (b5 = 0)))] (by kernel_rfl) ?_
  refine EL.as' [(1, sv a1 a2 a0), (3, ia b0), (5, ia a9), (6, sv a6 a7 a5), (7, .bool (a8)), (9, ia a4), (10, ia a3), (34, .bool (true))] (by simp only [sv, dec_t c7, Bool.not_true, Bool.not_false]) ?_
  refine EL.quick 4 [1, 5, 6, 7, 9, 10, 38] [(1, sv a1 a2 a0), (5, ia a9), (6, sv a6 a7 a5), (7, .bool (a8)), (9, ia a4), (10, ia a3), (38, .bool (decide (b0 = 0)))] (by kernel_rfl) ?_
  by_cases c8 : b0 = 0
  ·rw [if_pos c8] at H
   refine EL.keep [1, 5, 6, 7, 9, 10, 38] [(1, sv a1 a2 a0), (5, ia a9), (6, sv a6 a7 a5), (7, .bool (a8)), (9, ia a4), (10, ia a3), (38, .bool (decide (b0 = 0)))] (by kernel_rfl) ?_
   refine EL.as' [(1, sv a1 a2 a0), (5, ia a9), (6, sv a6 a7 a5), (7, .bool (a8)), (9, ia a4), (10, ia a3), (38, .bool (true))] (by simp only [sv, dec_t c8, Bool.not_true, Bool.not_false]) ?_
   refine EL.quick 4 [1, 6, 7, 9, 10, 42] [(1, sv a1 a2 a0), (6, sv a6 a7 a5), (7, .bool (a8)), (9, ia a4), (10, ia a3), (42, .bool (decide (a9 = 0)))] (by kernel_rfl) ?_
   by_cases c9 : a9 = 0
   ·rw [if_pos c9] at H
    refine EL.keep [1, 6, 7, 9, 10, 42] [(1, sv a1 a2 a0), (6, sv a6 a7 a5), (7, .bool (a8)), (9, ia a4), (10, ia a3), (42, .bool (decide (a9 = 0)))] (by kernel_rfl) ?_
    refine EL.as' [(1, sv a1 a2 a0), (6, sv a6 a7 a5), (7, .bool (a8)), (9, ia a4), (10, ia a3), (42, .bool (true))] (by simp only [sv, dec_t c9, Bool.not_true, Bool.not_false]) ?_
    refine EL.quick 3 [1, 6, 9, 10, 45] [(1, sv a1 a2 a0), (6, sv a6 a7 a5), (9, ia a4), (10, ia a3), (45, .bool (a8))] (by kernel_rfl) ?_
    by_cases d0 : a8 = true
    ·rw [if_pos d0] at H
     refine EL.keep [1, 6, 9, 10, 45] [(1, sv a1 a2 a0), (6, sv a6 a7 a5), (9, ia a4), (10, ia a3), (45, .bool (a8))] (by kernel_rfl) ?_
     refine EL.as' [(1, sv a1 a2 a0), (6, sv a6 a7 a5), (9, ia a4), (10, ia a3), (45, .bool (true))] (by simp only [sv, d0, Bool.not_true, Bool.not_false]) ?_
     refine EL.quick 2 [1, 9, 10, 45, 46, 47] [(1, sv a1 a2 a0), (9, ia a4), (10, ia a3), (45, .bool (true)), (46, sv a6 a7 a5), (47, sv a1 a2 a0)] (by kernel_rfl) ?_
     have hS := St.frDeep hS 2 rfl
     have hS : St B _ (Ass.deep 25 27 kS27 d9 e0 d8 :: Ass.box 69 c6 [sv c3 c5 c1, ia d7] :: os) (Ro.sl (Kd.slice kS27) a6 a7 a5 :: Ro.sl (Kd.slice kS27) a1 a2 a0 :: Ro.sl (Kd.int .u8) c3 c5 c1 :: Ro.sl (Kd.int .u8) c2 c4 b9 :: Ro.sl (Kd.int .u8) b7 b8 b6 :: rs) := hS.re [] [] rfl (sub_cons 0 rfl (sub_cons 4 rfl (sub_cons 1 rfl (sub_cons 2 rfl (sub_cons 3 rfl (sub_tail (sub_tail (sub_tail (sub_tail (sub_tail (sub_self)))))))))))
     obtain ⟨c0, e7, H⟩ := b1_out H
     have hq := image_Same.calls e7 hS
     refine EL.of (EO.callD 9 [sv a6 a7 a5, sv a1 a2 a0] _ 48 (by kernel_rfl) (by kernel_rfl) (by kernel_rfl) hq ?_)
     rintro v w ⟨rfl, hS⟩
     refine EL.quick 2 [1, 9, 10, 50] [(1, sv a1 a2 a0), (9, ia a4), (10, ia a3), (50, .bool (c0))] (by kernel_rfl) ?_
     by_cases d1 : c0 = true
     ·rw [if_pos d1] at H
      refine EL.keep [1, 9, 10, 50] [(1, sv a1 a2 a0), (9, ia a4), (10, ia a3), (50, .bool (c0))] (by kernel_rfl) ?_
      refine EL.as' [(1, sv a1 a2 a0), (9, ia a4), (10, ia a3), (50, .bool (true))] (by simp only [sv, d1, Bool.not_true, Bool.not_false]) ?_
      refine EL.quick 5 [1, 9, 10, 55] [(1, sv a1 a2 a0), (9, ia a4), (10, ia a3), (55, .bool (decide ((a0.length : Int) = 2)))] (by kernel_rfl) ?_
      by_cases d2 : (a0.length : Int) = 2
      ·rw [if_pos d2] at H
       refine EL.keep [1, 9, 10, 55] [(1, sv a1 a2 a0), (9, ia a4), (10, ia a3), (55, .bool (decide ((a0.length : Int) = 2)))] (by kernel_rfl) ?_
       refine EL.as' [(1, sv a1 a2 a0), (9, ia a4), (10, ia a3), (55, .bool (true))] (by simp only [sv, dec_t d2, Bool.not_true, Bool.not_false]) ?_
       refine EL.quick 4 [1, 10, 59] [(1, sv a1 a2 a0), (10, ia a3), (59, .bool (decide (a4 = 1)))] (by kernel_rfl) ?_
       by_cases d3 : a4 = 1
       ·rw [if_pos d3] at H
        refine EL.keep [1, 10, 59] [(1, sv a1 a2 a0), (10, ia a3), (59, .bool (decide (a4 = 1)))] (by kernel_rfl) ?_
        refine EL.as' [(1, sv a1 a2 a0), (10, ia a3), (59, .bool (true))] (by simp only [sv, dec_t d3, Bool.not_true, Bool.not_false]) ?_
        refine EL.quick 4 [1, 63] [(1, sv a1 a2 a0), (63, .bool (decide (a3 = 24)))] (by kernel_rfl) ?_
        by_cases d4 : a3 = 24
        ·rw [if_pos d4] at H
         refine EL.keep [1, 63] [(1, sv a1 a2 a0), (63, .bool (decide (a3 = 24)))] (by kernel_rfl) ?_
         refine EL.as' [(1, sv a1 a2 a0), (63, .bool (true))] (by simp only [sv, dec_t d4, Bool.not_true, Bool.not_false]) ?_
         refine EL.quick 1 [63, 64] [(63, .bool (true)), (64, sv a1 a2 a0)] (by kernel_rfl) ?_
         have hS : St B _ (Ass.deep 25 27 kS27 d9 e0 d8 :: Ass.box 69 c6 [sv c3 c5 c1, ia d7] :: os) (Ro.sl (Kd.slice kS27) a1 a2 a0 :: Ro.sl (Kd.slice kS27) a6 a7 a5 :: Ro.sl (Kd.int .u8) c3 c5 c1 :: Ro.sl (Kd.int .u8) c2 c4 b9 :: Ro.sl (Kd.int .u8) b7 b8 b6 :: rs) := hS.re [] [] rfl (sub_cons 1 rfl (sub_cons 0 rfl (sub_tail (sub_tail (sub_self)))))
         obtain ⟨d5, e8, H⟩ := b1_out H
         have hq := image_Text.calls e8 hS gB
         refine EL.of (EO.callD 10 [sv a1 a2 a0] _ 65 (by kernel_rfl) (by kernel_rfl) (by kernel_rfl) hq ?_)
         rintro v w ⟨rfl, hS⟩
         refine EL.quick 3 [0] [(0, .bool ((d5.toList == (⟨#[102, 117, 110, 99, 10, 112, 117, 115, 104, 32, 49, 10, 114, 101, 116, 10, 102, 117, 110, 99, 10, 102, 97, 105, 108, 32, 51, 10]⟩ : ByteArray).toList)))] (by kernel_rfl) ?_
         refine EL.done (by kernel_rfl) ?_
         refine EQ.code ?_
         refine EW.ret (by kernel_rfl) ?_
         obtain rfl := Option.some.inj H
         exact EQ.leave (.bool ((d5.toList == (⟨#[102, 117, 110, 99, 10, 112, 117, 115, 104, 32, 49, 10, 114, 101, 116, 10, 102, 117, 110, 99, 10, 102, 97, 105, 108, 32, 51, 10]⟩ : ByteArray).toList))) (by kernel_rfl) ⟨_, rfl, rfl, (hS.re [] [0, 0] rfl (sub_tail (sub_tail (sub_tail (sub_tail (sub_tail (sub_self)))))))⟩
        rw [if_neg d4] at H
        refine EL.keep [1, 63] [(1, sv a1 a2 a0), (63, .bool (decide (a3 = 24)))] (by kernel_rfl) ?_
        refine EL.as' [(1, sv a1 a2 a0), (63, .bool (false))] (by simp only [sv, dec_f d4, Bool.not_true, Bool.not_false]) ?_
        refine EL.quick 5 [0] [(0, .bool (false))] (by kernel_rfl) ?_
        refine EL.done (by kernel_rfl) ?_
        refine EQ.code ?_
        refine EW.ret (by kernel_rfl) ?_
        obtain rfl := Option.some.inj H
        exact EQ.leave (.bool (false)) (by kernel_rfl) ⟨_, rfl, rfl, (hS.re [] [0, 0] rfl (sub_tail (sub_tail (sub_tail (sub_tail (sub_tail (sub_self)))))))⟩
       rw [if_neg d3] at H
       refine EL.keep [1, 10, 59] [(1, sv a1 a2 a0), (10, ia a3), (59, .bool (decide (a4 = 1)))] (by kernel_rfl) ?_
       refine EL.as' [(1, sv a1 a2 a0), (10, ia a3), (59, .bool (false))] (by simp only [sv, dec_f d3, Bool.not_true, Bool.not_false]) ?_
       refine EL.quick 9 [0] [(0, .bool (false))] (by kernel_rfl) ?_
       refine EL.done (by kernel_rfl) ?_
       refine EQ.code ?_
       refine EW.ret (by kernel_rfl) ?_
       obtain rfl := Option.some.inj H
       exact EQ.leave (.bool (false)) (by kernel_rfl) ⟨_, rfl, rfl, (hS.re [] [0, 0] rfl (sub_tail (sub_tail (sub_tail (sub_tail (sub_tail (sub_self)))))))⟩
      rw [if_neg d2] at H
      refine EL.keep [1, 9, 10, 55] [(1, sv a1 a2 a0), (9, ia a4), (10, ia a3), (55, .bool (decide ((a0.length : Int) = 2)))] (by kernel_rfl) ?_
      refine EL.as' [(1, sv a1 a2 a0), (9, ia a4), (10, ia a3), (55, .bool (false))] (by simp only [sv, dec_f d2, Bool.not_true, Bool.not_false]) ?_
      refine EL.quick 13 [0] [(0, .bool (false))] (by kernel_rfl) ?_
      refine EL.done (by kernel_rfl) ?_
      refine EQ.code ?_
      refine EW.ret (by kernel_rfl) ?_
      obtain rfl := Option.some.inj H
      exact EQ.leave (.bool (false)) (by kernel_rfl) ⟨_, rfl, rfl, (hS.re [] [0, 0] rfl (sub_tail (sub_tail (sub_tail (sub_tail (sub_tail (sub_self)))))))⟩
     rw [if_neg d1] at H
     refine EL.keep [1, 9, 10, 50] [(1, sv a1 a2 a0), (9, ia a4), (10, ia a3), (50, .bool (c0))] (by kernel_rfl) ?_
     refine EL.as' [(1, sv a1 a2 a0), (9, ia a4), (10, ia a3), (50, .bool (false))] (by simp only [sv, (Bool.eq_false_iff.2 d1), Bool.not_true, Bool.not_false]) ?_
     refine EL.quick 18 [0] [(0, .bool (false))] (by kernel_rfl) ?_
     refine EL.done (by kernel_rfl) ?_
     refine EQ.code ?_
     refine EW.ret (by kernel_rfl) ?_
     obtain rfl := Option.some.inj H
     exact EQ.leave (.bool (false)) (by kernel_rfl) ⟨_, rfl, rfl, (hS.re [] [0, 0] rfl (sub_tail (sub_tail (sub_tail (sub_tail (sub_tail (sub_self)))))))⟩
    rw [if_neg d0] at H
    refine EL.keep [1, 6, 9, 10, 45] [(1, sv a1 a2 a0), (6, sv a6 a7 a5), (9, ia a4), (10, ia a3), (45, .bool (a8))] (by kernel_rfl) ?_
    refine EL.as' [(1, sv a1 a2 a0), (6, sv a6 a7 a5), (9, ia a4), (10, ia a3), (45, .bool (false))] (by simp only [sv, (Bool.eq_false_iff.2 d0), Bool.not_true, Bool.not_false]) ?_
    refine EL.quick 23 [0] [(0, .bool (false))] (by kernel_rfl) ?_
    refine EL.done (by kernel_rfl) ?_
    refine EQ.code ?_
    refine EW.ret (by kernel_rfl) ?_
    obtain rfl := Option.some.inj H
    exact EQ.leave (.bool (false)) (by kernel_rfl) ⟨_, rfl, rfl, (hS.re [] [0, 0, 0] rfl (sub_tail (sub_tail (sub_tail (sub_tail (sub_self))))))⟩
   rw [if_neg c9] at H
   refine EL.keep [1, 6, 7, 9, 10, 42] [(1, sv a1 a2 a0), (6, sv a6 a7 a5), (7, .bool (a8)), (9, ia a4), (10, ia a3), (42, .bool (decide (a9 = 0)))] (by kernel_rfl) ?_
   refine EL.as' [(1, sv a1 a2 a0), (6, sv a6 a7 a5), (7, .bool (a8)), (9, ia a4), (10, ia a3), (42, .bool (false))] (by simp only [sv, dec_f c9, Bool.not_true, Bool.not_false]) ?_
   refine EL.quick 26 [0] [(0, .bool (false))] (by kernel_rfl) ?_
   refine EL.done (by kernel_rfl) ?_
   refine EQ.code ?_
   refine EW.ret (by kernel_rfl) ?_
   obtain rfl := Option.some.inj H
   exact EQ.leave (.bool (false)) (by kernel_rfl) ⟨_, rfl, rfl, (hS.re [] [0, 0, 0] rfl (sub_tail (sub_tail (sub_tail (sub_tail (sub_self))))))⟩
  rw [if_neg c8] at H
  refine EL.keep [1, 5, 6, 7, 9, 10, 38] [(1, sv a1 a2 a0), (5, ia a9), (6, sv a6 a7 a5), (7, .bool (a8)), (9, ia a4), (10, ia a3), (38, .bool (decide (b0 = 0)))] (by kernel_rfl) ?_
  refine EL.as' [(1, sv a1 a2 a0), (5, ia a9), (6, sv a6 a7 a5), (7, .bool (a8)), (9, ia a4), (10, ia a3), (38, .bool (false))] (by simp only [sv, dec_f c8, Bool.not_true, Bool.not_false]) ?_
  refine EL.quick 30 [0] [(0, .bool (false))] (by kernel_rfl) ?_
  refine EL.done (by kernel_rfl) ?_
  refine EQ.code ?_
  refine EW.ret (by kernel_rfl) ?_
  obtain rfl := Option.some.inj H
  exact EQ.leave (.bool (false)) (by kernel_rfl) ⟨_, rfl, rfl, (hS.re [] [0, 0, 0] rfl (sub_tail (sub_tail (sub_tail (sub_tail (sub_self))))))⟩
 rw [if_neg c7] at H
 refine EL.keep [1, 3, 5, 6, 7, 9, 10, 34] [(1, sv a1 a2 a0), (3, ia b0), (5, ia a9), (6, sv a6 a7 a5), (7, .bool (a8)), (9, ia a4), (10, ia a3), (34, .bool (decide (b5 = 0)))] (by kernel_rfl) ?_
 refine EL.as' [(1, sv a1 a2 a0), (3, ia b0), (5, ia a9), (6, sv a6 a7 a5), (7, .bool (a8)), (9, ia a4), (10, ia a3), (34, .bool (false))] (by simp only [sv, dec_f c7, Bool.not_true, Bool.not_false]) ?_
 refine EL.quick 34 [0] [(0, .bool (false))] (by kernel_rfl) ?_
 refine EL.done (by kernel_rfl) ?_
 refine EQ.code ?_
 refine EW.ret (by kernel_rfl) ?_
 obtain rfl := Option.some.inj H
 exact EQ.leave (.bool (false)) (by kernel_rfl) ⟨_, rfl, rfl, (hS.re [] [0, 0, 0] rfl (sub_tail (sub_tail (sub_tail (sub_tail (sub_self))))))⟩

end Go.Proofs.YtiilloijkbabbaaDoor.G
