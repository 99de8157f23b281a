import Derived.Test.YtiilloijkbabbaaDoorProg
import Derived.Test.YtiilloijkbabbaaDoorFwShort
import Derived.Test.YtiilloijkbabbaaDoorFwOpen
import Derived.Test.YtiilloijkbabbaaDoorDoor
import Derived.Test.YtiilloijkbabbaaDoorFwStr
import Derived.Test.YtiilloijkbabbaaDoorG0
namespace Go.Proofs.YtiilloijkbabbaaDoor.G
open Go Go.Fw Go.RowKit Go.Proofs
set_option linter.unusedVariables false
set_option linter.unusedSimpArgs false

/-! ### confidant/image.Take: function 11 -/
def image_Take.l1 (K : Nat) (d9 : (List Int) → Int → (List S27) → Option (List Int × Int × List (List S27) × Bool)) : Nat → (List Int) → Int → (List S27) → Int → Option (List Int × Int × List (List S27) × Bool)
 | 0, _, _, _, _ => none
 | n + 1, c1, d5, a5, a6 => if a6 > 0 then (b5 (instr_Take.f K c1 d5) fun (f4 : List Int) (f5 : Int) (b7 : Int) (b6 : Int) (e1 : Bool) => (if e1 = true then (lt ([(⟨b7, b6⟩ : S27)] : List S27) fun f3 => (if (a5.length + f3.length) * 16 ≤ 140737488355328 then (lt (a5 ++ f3) fun c9 => (image_Take.l1 K d9 n f4 f5 c9 (IntKind.u64.wrap (a6 - 1)))) else none)) else (some (f4, f5, ([] : List (List S27)), false)))) else (d9 c1 d5 a5)
def image_Take.l0 (K : Nat) (d8 : (List Int) → Int → (List (List S27)) → Option (List Int × Int × List (List S27) × Bool)) : Nat → (List Int) → Int → (List (List S27)) → Int → Option (List Int × Int × List (List S27) × Bool)
 | 0, _, _, _, _ => none
 | n + 1, b1, d3, a1, a2 => if a2 > 0 then (lt (fun (c7 : List (List S27)) (e4 : List Int) (f7 : Int) => (image_Take.l0 K d8 n e4 f7 c7 (IntKind.u64.wrap (a2 - 1)))) fun i8 => (lt (fun (c8 : List Int) (d4 : Int) (a8 : List S27) => (if (a1.length + ([a8] : List (List S27)).length) * 24 ≤ 140737488355328 then (lt (a1 ++ ([a8] : List (List S27))) fun e0 => (i8 e0 c8 d4)) else none)) fun d9 => (b3 (pack_Reader_Num.f K b1 d3 512) fun (g5 : List Int) (j0 : Int) (g6 : Int) => (image_Take.l1 K d9 K g5 j0 ([] : List S27) g6)))) else (d8 b1 d3 a1)
def image_Take.f (K : Nat) (a7 : List Int) (g2 : Int) : Option (List Int × Int × List (List S27) × Bool) := lt (fun (d2 : List Int) (f6 : Int) (b8 : List (List S27)) => (b3 (pack_Reader_Err.f K d2 f6) fun (j1 : List Int) (j2 : Int) (g7 : Int) => (if g7 = 0 then (some (j1, j2, b8, true)) else (some (j1, j2, ([] : List (List S27)), false))))) fun d8 => (b3 (pack_Reader_Num.f K a7 g2 64) fun (c6 : List Int) (i9 : Int) (g4 : Int) => (image_Take.l0 K d8 K c6 i9 ([] : List (List S27)) g4))
set_option maxRecDepth 100000 in
theorem image_Take.calls {K : Nat} {a7 : List Int} {g2 : Int} {a0 : Nat} {b2 : Option Addr} {b4 : Nat} {d0 : List Int} {e2 : Int} {d1 : List (List S27)} {e3 : Bool} {B w : World} {os : List Ass} {rs : List Ro} (H : image_Take.f K a7 g2 = some (d0, e2, d1, e3)) (hS : St B w (Ass.box 69 a0 [sv b2 b4 a7, ia g2] :: os) (Ro.sl (Kd.int .u8) b2 b4 a7 :: rs)) :
  Calls Tryd.prog 11 [pt a0 0].toArray w (fun en w' => ∃ v, en = .returned v ∧ ∃ j3 : Option Addr, ∃ j6 : Nat, ∃ j4 : Option Addr, ∃ j7 : Nat, v = .tuple #[sv j4 j7 d1, .bool (e3)] ∧ St B w' (Ass.box 69 a0 [sv j3 j6 d0, ia e2] :: Ass.deep 25 27 kS27 j4 j7 d1 :: os) (Ro.sl (Kd.int .u8) j3 j6 d0 :: Ro.sl (Kd.int .u8) b2 b4 a7 :: rs)) := by
 unfold image_Take.f at H
 refine calls_of_EW (args := [pt a0 0]) (c := Cd11) 43 Tryd.func11 (by kernel_rfl) (by kernel_rfl) (by kernel_rfl) ?_
 refine EW.sq (by kernel_rfl) ?_
 refine EW.rg (by kernel_rfl) ?_
 refine EL.quick 2 [0] [(0, pt a0 0)] (by kernel_rfl) ?_
 refine EL.done (by kernel_rfl) ?_
 refine EQ.code ?_
 refine EW.sq (by kernel_rfl) ?_
 refine EW.sq (by kernel_rfl) ?_
 refine EW.rg (by kernel_rfl) ?_
 refine EL.quick 2 [0, 11] [(0, pt a0 0), (11, .bool (false))] (by kernel_rfl) ?_
 refine EL.done (by kernel_rfl) ?_
 refine EQ.code ?_
 refine EW.cdF (by kernel_rfl) (by kernel_rfl) ?_
 refine EW.skip (by kernel_rfl) ?_
 refine EQ.code ?_
 refine EW.sq (by kernel_rfl) ?_
 refine EW.rg (by kernel_rfl) ?_
 refine EL.quick 1 [0, 4] [(0, pt a0 0), (4, sv none 0 ([] : List (List S27)))] (by kernel_rfl) ?_
 refine EL.done (by kernel_rfl) ?_
 refine EQ.code ?_
 obtain ⟨d8, m8, H⟩ := lt_out H
 refine EW.ct (fun a w => ∃ d2 : List Int, ∃ f6 : Int, ∃ b8 : List (List S27), ∃ f8 : Option Addr, ∃ g0 : Nat, ∃ c2 : Option Addr, ∃ c4 : Nat, Sat 43 [(0, pt a0 0), (4, sv c2 c4 b8)] a ∧ St B w (Ass.box 69 a0 [sv f8 g0 d2, ia f6] :: Ass.deep 25 27 kS27 c2 c4 b8 :: os) (Ro.sl (Kd.int .u8) f8 g0 d2 :: Ro.sl (Kd.int .u8) b2 b4 a7 :: rs) ∧ d8 d2 f6 b8 = some (d0, e2, d1, e3)) (by kernel_rfl) ?_ (fun a w hI => ?_)
 ·refine EW.sq (by kernel_rfl) ?_
  refine EW.rg (by kernel_rfl) ?_
  refine EL.quick 1 [0, 4, 12] [(0, pt a0 0), (4, sv none 0 ([] : List (List S27))), (12, pt a0 0)] (by kernel_rfl) ?_
  have hS : St B _ (Ass.box 69 a0 [sv b2 b4 a7, ia g2] :: os) (Ro.sl (Kd.int .u8) b2 b4 a7 :: rs) := hS.re [0] [] rfl (sub_cons 0 rfl (sub_tail (sub_self)))
  obtain ⟨c6, i9, g4, m4, H⟩ := b3_out H
  have hq := pack_Reader_Num.calls m4 hS
  refine EL.of (EO.callD 27 [pt a0 0, ic 64] _ 13 (by kernel_rfl) (by kernel_rfl) (by kernel_rfl) hq ?_)
  rintro v w ⟨d6, d7, rfl, hS⟩
  refine EL.quick 1 [0, 4, 5] [(0, pt a0 0), (4, sv none 0 ([] : List (List S27))), (5, ic g4)] (by kernel_rfl) ?_
  refine EL.done (by kernel_rfl) ?_
  refine EQ.code ?_
  refine EW.bl 0 (by kernel_rfl) ?_
  have hS := St.nilDeep hS 25 27 kS27
  refine EW.lp (fun n a w => ∃ b1 : List Int, ∃ d3 : Int, ∃ a1 : List (List S27), ∃ a2 : Int, ∃ b9 : Option Addr, ∃ c0 : Nat, ∃ a3 : Option Addr, ∃ a4 : Nat, Sat 43 [(0, pt a0 0), (4, sv a3 a4 a1), (5, ic a2)] a ∧ St B w (Ass.box 69 a0 [sv b9 c0 b1, ia d3] :: Ass.deep 25 27 kS27 a3 a4 a1 :: os) (Ro.sl (Kd.int .u8) b9 c0 b1 :: Ro.sl (Kd.int .u8) d6 d7 c6 :: Ro.sl (Kd.int .u8) b2 b4 a7 :: rs) ∧ image_Take.l0 K d8 n b1 d3 a1 a2 = some (d0, e2, d1, e3)) K (by kernel_rfl) ?_ (fun n a w hI => ?_)
  ·refine EQ.keep [0, 4, 5] [(0, pt a0 0), (4, sv none 0 ([] : List (List S27))), (5, ic g4)] (by kernel_rfl) ?_
   exact fun a ha => ⟨c6, i9, ([] : List (List S27)), g4, d6, d7, none, 0, ha, (hS.re [0, 1] [] rfl (sub_cons 0 rfl (sub_cons 0 rfl (sub_cons 1 rfl (sub_tail (sub_tail (sub_self))))))), H⟩
  obtain ⟨b1, d3, a1, a2, b9, c0, a3, a4, ha, hS, H⟩ := hI
  obtain _ | n := n
  ·simp [image_Take.l0] at H
  rw [image_Take.l0.eq_2] at H
  refine EW.at ?_ a ha
  clear ha a
  refine EW.sq (by kernel_rfl) ?_
  refine EW.sq (by kernel_rfl) ?_
  refine EW.rg (by kernel_rfl) ?_
  refine EL.quick 2 [0, 4, 5, 15] [(0, pt a0 0), (4, sv a3 a4 a1), (5, ic a2), (15, .bool (decide (a2 > 0)))] (by kernel_rfl) ?_
  refine EL.done (by kernel_rfl) ?_
  refine EQ.code ?_
  refine EW.cdP (a2 > 0) (by kernel_rfl) (by kernel_rfl) (fun i4 => ?_) (fun i4 => ?_)
  ·rw [if_pos i4] at H
   refine EW.skip (by kernel_rfl) ?_
   refine EQ.code ?_
   obtain ⟨i8, m9, H⟩ := lt_out H
   refine EW.ct (fun a w => ∃ c7 : List (List S27), ∃ e4 : List Int, ∃ f7 : Int, ∃ e5 : Option Addr, ∃ e9 : Nat, ∃ g8 : Option Addr, ∃ i0 : Nat, Sat 43 [(0, pt a0 0), (4, sv e5 e9 c7), (5, ic a2)] a ∧ St B w (Ass.deep 25 27 kS27 e5 e9 c7 :: Ass.box 69 a0 [sv g8 i0 e4, ia f7] :: os) (Ro.sl (Kd.int .u8) g8 i0 e4 :: Ro.sl (Kd.int .u8) b9 c0 b1 :: Ro.sl (Kd.int .u8) d6 d7 c6 :: Ro.sl (Kd.int .u8) b2 b4 a7 :: rs) ∧ i8 c7 e4 f7 = some (d0, e2, d1, e3)) (by kernel_rfl) ?_ (fun a w hI => ?_)
   ·refine EW.bl 1 (by kernel_rfl) ?_
    refine EW.sq (by kernel_rfl) ?_
    refine EW.rg (by kernel_rfl) ?_
    refine EL.quick 1 [0, 4, 5, 6] [(0, pt a0 0), (4, sv a3 a4 a1), (5, ic a2), (6, sv none 0 ([] : List S27))] (by kernel_rfl) ?_
    refine EL.done (by kernel_rfl) ?_
    refine EQ.code ?_
    obtain ⟨d9, n0, H⟩ := lt_out H
    refine EW.ct (fun a w => ∃ c8 : List Int, ∃ d4 : Int, ∃ a8 : List S27, ∃ e6 : Option Addr, ∃ f0 : Nat, ∃ c3 : Option Addr, ∃ c5 : Nat, Sat 43 [(0, pt a0 0), (4, sv a3 a4 a1), (5, ic a2), (6, sv c3 c5 a8)] a ∧ St B w (Ass.box 69 a0 [sv e6 f0 c8, ia d4] :: Ass.deep 25 27 kS27 a3 a4 a1 :: Ass.own 27 kS27 c3 c5 a8 :: os) (Ro.sl (Kd.int .u8) e6 f0 c8 :: Ro.sl (Kd.int .u8) b9 c0 b1 :: Ro.sl (Kd.int .u8) d6 d7 c6 :: Ro.sl (Kd.int .u8) b2 b4 a7 :: rs) ∧ d9 c8 d4 a8 = some (d0, e2, d1, e3)) (by kernel_rfl) ?_ (fun a w hI => ?_)
    ·refine EW.sq (by kernel_rfl) ?_
     refine EW.rg (by kernel_rfl) ?_
     refine EL.quick 1 [0, 4, 5, 6, 18] [(0, pt a0 0), (4, sv a3 a4 a1), (5, ic a2), (6, sv none 0 ([] : List S27)), (18, pt a0 0)] (by kernel_rfl) ?_
     have hS : St B _ (Ass.box 69 a0 [sv b9 c0 b1, ia d3] :: Ass.deep 25 27 kS27 a3 a4 a1 :: os) (Ro.sl (Kd.int .u8) b9 c0 b1 :: Ro.sl (Kd.int .u8) d6 d7 c6 :: Ro.sl (Kd.int .u8) b2 b4 a7 :: rs) := hS.re [0] [] rfl (sub_cons 0 rfl (sub_tail (sub_self)))
     obtain ⟨g5, j0, g6, m5, H⟩ := b3_out H
     have hq := pack_Reader_Num.calls m5 hS
     refine EL.of (EO.callD 27 [pt a0 0, ic 512] _ 19 (by kernel_rfl) (by kernel_rfl) (by kernel_rfl) hq ?_)
     rintro v w ⟨i2, i3, rfl, hS⟩
     refine EL.quick 1 [0, 4, 5, 6, 7] [(0, pt a0 0), (4, sv a3 a4 a1), (5, ic a2), (6, sv none 0 ([] : List S27)), (7, ic g6)] (by kernel_rfl) ?_
     refine EL.done (by kernel_rfl) ?_
     refine EQ.code ?_
     refine EW.bl 2 (by kernel_rfl) ?_
     have hS := St.nilO hS 27 kS27
     refine EW.lp (fun n a w => ∃ c1 : List Int, ∃ d5 : Int, ∃ a5 : List S27, ∃ a6 : Int, ∃ e7 : Option Addr, ∃ f1 : Nat, ∃ a9 : Option Addr, ∃ b0 : Nat, Sat 43 [(0, pt a0 0), (4, sv a3 a4 a1), (5, ic a2), (6, sv a9 b0 a5), (7, ic a6)] a ∧ St B w (Ass.box 69 a0 [sv e7 f1 c1, ia d5] :: Ass.deep 25 27 kS27 a3 a4 a1 :: Ass.own 27 kS27 a9 b0 a5 :: os) (Ro.sl (Kd.int .u8) e7 f1 c1 :: Ro.sl (Kd.int .u8) i2 i3 g5 :: Ro.sl (Kd.int .u8) b9 c0 b1 :: Ro.sl (Kd.int .u8) d6 d7 c6 :: Ro.sl (Kd.int .u8) b2 b4 a7 :: rs) ∧ image_Take.l1 K d9 n c1 d5 a5 a6 = some (d0, e2, d1, e3)) K (by kernel_rfl) ?_ (fun n a w hI => ?_)
     ·refine EQ.keep [0, 4, 5, 6, 7] [(0, pt a0 0), (4, sv a3 a4 a1), (5, ic a2), (6, sv none 0 ([] : List S27)), (7, ic g6)] (by kernel_rfl) ?_
      exact fun a ha => ⟨g5, j0, ([] : List S27), g6, i2, i3, none, 0, ha, (hS.re [0, 2, 2] [] rfl (sub_cons 0 rfl (sub_cons 0 rfl (sub_cons 1 rfl (sub_cons 2 rfl (sub_cons 3 rfl (sub_tail (sub_tail (sub_tail (sub_tail (sub_self))))))))))), H⟩
     obtain ⟨c1, d5, a5, a6, e7, f1, a9, b0, ha, hS, H⟩ := hI
     obtain _ | n := n
     ·simp [image_Take.l1] at H
     rw [image_Take.l1.eq_2] at H
     refine EW.at ?_ a ha
     clear ha a
     refine EW.sq (by kernel_rfl) ?_
     refine EW.sq (by kernel_rfl) ?_
     refine EW.rg (by kernel_rfl) ?_
     refine EL.quick 2 [0, 4, 5, 6, 7, 21] [(0, pt a0 0), (4, sv a3 a4 a1), (5, ic a2), (6, sv a9 b0 a5), (7, ic a6), (21, .bool (decide (a6 > 0)))] (by kernel_rfl) ?_
     refine EL.done (by kernel_rfl) ?_
     refine EQ.code ?_
     refine EW.cdP (a6 > 0) (by kernel_rfl) (by kernel_rfl) (fun i5 => ?_) (fun i5 => ?_)
     ·rw [if_pos i5] at H
      refine EW.skip (by kernel_rfl) ?_
      refine EQ.code ?_
      refine EW.sq (by kernel_rfl) ?_
      refine EW.bl 3 (by kernel_rfl) ?_
      refine EW.sq (by kernel_rfl) ?_
      refine EW.rg (by kernel_rfl) ?_
      refine EL.quick 1 [0, 4, 5, 6, 7, 25] [(0, pt a0 0), (4, sv a3 a4 a1), (5, ic a2), (6, sv a9 b0 a5), (7, ic a6), (25, pt a0 0)] (by kernel_rfl) ?_
      have hS : St B _ (Ass.box 69 a0 [sv e7 f1 c1, ia d5] :: Ass.deep 25 27 kS27 a3 a4 a1 :: Ass.own 27 kS27 a9 b0 a5 :: os) (Ro.sl (Kd.int .u8) e7 f1 c1 :: Ro.sl (Kd.int .u8) i2 i3 g5 :: Ro.sl (Kd.int .u8) b9 c0 b1 :: Ro.sl (Kd.int .u8) d6 d7 c6 :: Ro.sl (Kd.int .u8) b2 b4 a7 :: rs) := hS.re [0] [] rfl (sub_cons 0 rfl (sub_tail (sub_self)))
      obtain ⟨f4, f5, b7, b6, e1, m6, H⟩ := b5_out H
      have hq := instr_Take.calls m6 hS
      refine EL.of (EO.callD 28 [pt a0 0] _ 26 (by kernel_rfl) (by kernel_rfl) (by kernel_rfl) hq ?_)
      rintro v w ⟨g9, i1, rfl, hS⟩
      refine EL.quick 3 [0, 4, 5, 6, 7, 27, 28] [(0, pt a0 0), (4, sv a3 a4 a1), (5, ic a2), (6, sv a9 b0 a5), (7, ic a6), (27, ag [ia b7, ib b6]), (28, .bool (e1))] (by kernel_rfl) ?_
      refine EL.of (EO.alloc hS 27 (ag [ia 0, ib 0]) [ia 0, ib 0] 8 (by kernel_rfl) (by kernel_rfl) (by kernel_rfl) (by kernel_rfl) (by first | rfl | kernel_rfl) ?_)
      intro g3 w hS
      refine EL.of (EO.storeBox (os' := Ass.box 27 g3 [ia b7, ib b6] :: Ass.box 69 a0 [sv g9 i1 f4, ia f5] :: Ass.deep 25 27 kS27 a3 a4 a1 :: Ass.own 27 kS27 a9 b0 a5 :: os) hS 0 rfl 27 0 (ag [ia b7, ib b6]) [ia b7, ib b6] (by kernel_rfl) (by kernel_rfl) (by kernel_rfl) (by kernel_rfl) (by kernel_rfl) (by kernel_rfl) rfl rfl ?_)
      intro w hS
      refine EL.quick 1 [0, 4, 5, 6, 7, 8, 9] [(0, pt a0 0), (4, sv a3 a4 a1), (5, ic a2), (6, sv a9 b0 a5), (7, ic a6), (8, pt g3 0), (9, .bool (e1))] (by kernel_rfl) ?_
      refine EL.done (by kernel_rfl) ?_
      refine EQ.code ?_
      refine EW.sq (by kernel_rfl) ?_
      refine EW.sq (by kernel_rfl) ?_
      refine EW.rg (by kernel_rfl) ?_
      refine EL.quick 2 [0, 4, 5, 6, 7, 8, 30] [(0, pt a0 0), (4, sv a3 a4 a1), (5, ic a2), (6, sv a9 b0 a5), (7, ic a6), (8, pt g3 0), (30, .bool (!(e1)))] (by kernel_rfl) ?_
      refine EL.done (by kernel_rfl) ?_
      refine EQ.code ?_
      refine EW.cdQ (b := !(e1)) (e1 = true) (false) (by kernel_rfl) (by kernel_rfl) ⟨fun h => (by rw [h] <;> rfl), fun h => (by rw [Bool.eq_false_iff.2 h] <;> rfl)⟩ (fun i6 => ?_) (fun i6 => ?_)
      ·rw [if_pos i6] at H
       refine EW.skip (by kernel_rfl) ?_
       refine EQ.code ?_
       refine EW.rg (by kernel_rfl) ?_
       refine EL.quick 1 [0, 4, 5, 7, 8, 31] [(0, pt a0 0), (4, sv a3 a4 a1), (5, ic a2), (7, ic a6), (8, pt g3 0), (31, sv a9 b0 a5)] (by kernel_rfl) ?_
       refine EL.of (EO.Y (YO.loadBox hS 0 rfl 27 0 2 (ag [ia b7, ib b6]) 32 (by kernel_rfl) (by kernel_rfl) (by kernel_rfl) (by kernel_rfl)) ?_)
       obtain ⟨f3, m1, H⟩ := lt_out H
       refine EL.of (EO.lit hS kS27 27 25 1 #[(0, ag [ia b7, ib b6])] [ia b7, ib b6] f3 33 (by kernel_rfl) (by kernel_rfl) (by kernel_rfl) (fun _ => (by kernel_rfl)) (by rw [m1]; rfl) (by kernel_rfl) (fun w G hr => (by rw [m1]; exact ⟨[ia b7, ib b6], [], rfl, ⟨[ia b7], [ib b6], rfl, rfl, ⟨[ib b6], [], rfl, rfl, rfl⟩⟩, rfl⟩)) ?_)
       intro j9 w hS
       obtain ⟨m2, H⟩ := ite_in H
       obtain ⟨c9, n1, H⟩ := lt_out H
       refine EL.of (EO.append hS 25 25 27 16 4 kS27 a9 b0 a5 rfl (some ⟨j9, 0, none⟩) 1 f3 (Rd.own 0 27 rfl) c9 n1 (fun e8 f2 => Ass.own 27 kS27 (some ⟨j9, 0, none⟩) 1 f3 :: Ass.box 27 g3 [ia b7, ib b6] :: Ass.box 69 a0 [sv g9 i1 f4, ia f5] :: Ass.deep 25 27 kS27 a3 a4 a1 :: Ass.own 27 kS27 e8 f2 c9 :: os) 34 (by kernel_rfl) (by kernel_rfl) (by kernel_rfl) (by kernel_rfl) m2 (fun _ _ => rfl) ?_)
       intro e8 f2 w hS
       refine EL.quick 1 [0, 4, 5, 6, 7] [(0, pt a0 0), (4, sv a3 a4 a1), (5, ic a2), (6, sv e8 f2 c9), (7, ic a6)] (by kernel_rfl) ?_
       refine EL.done (by kernel_rfl) ?_
       refine EQ.pop ?_
       refine EQ.code ?_
       refine EW.rg (by kernel_rfl) ?_
       refine EL.quick 3 [0, 4, 5, 6, 7] [(0, pt a0 0), (4, sv a3 a4 a1), (5, ic a2), (6, sv e8 f2 c9), (7, ic (IntKind.u64.wrap (a6 - 1)))] (by kernel_rfl) ?_
       refine EL.done (by kernel_rfl) ?_
       refine EQ.to ?_
       refine EQ.keep [0, 4, 5, 6, 7] [(0, pt a0 0), (4, sv a3 a4 a1), (5, ic a2), (6, sv e8 f2 c9), (7, ic (IntKind.u64.wrap (a6 - 1)))] (by kernel_rfl) ?_
       exact fun a ha => ⟨n, Nat.lt_succ_self n, f4, f5, c9, IntKind.u64.wrap (a6 - 1), g9, i1, e8, f2, ha, (hS.re [4, 4, 4] [3, 3] rfl (sub_cons 0 rfl (sub_cons 2 rfl (sub_cons 3 rfl (sub_cons 4 rfl (sub_cons 5 rfl (sub_tail (sub_tail (sub_tail (sub_tail (sub_tail (sub_tail (sub_self))))))))))))), H⟩
      rw [if_neg i6] at H
      refine EW.sq (by kernel_rfl) ?_
      refine EW.rg (by kernel_rfl) ?_
      refine EL.quick 2 [2, 3] [(2, sv none 0 ([] : List (List S27))), (3, .bool (false))] (by kernel_rfl) ?_
      refine EL.done (by kernel_rfl) ?_
      refine EQ.code ?_
      refine EW.ret (by kernel_rfl) ?_
      refine EQ.ret ?_
      refine EQ.ret ?_
      refine EQ.ret ?_
      refine EQ.ret ?_
      refine EQ.ret ?_
      refine EQ.ret ?_
      refine EQ.ret ?_
      refine EQ.ret ?_
      refine EQ.ret ?_
      refine EQ.ret ?_
      refine EQ.ret ?_
      have hS := St.nilDeep hS 25 27 kS27
      simp only [sv, Option.some.injEq, Prod.mk.injEq] at H
      obtain ⟨rfl, rfl, rfl, rfl⟩ := H
      exact EQ.leave (.tuple #[sv none 0 ([] : List (List S27)), .bool (false)]) (by kernel_rfl) ⟨_, rfl, g9, i1, none, 0, rfl, (hS.re [0, 2] [2, 2, 2] rfl (sub_cons 0 rfl (sub_tail (sub_tail (sub_tail (sub_tail (sub_tail (sub_self))))))))⟩
     rw [if_neg i5] at H
     refine EW.exit (id := 2) (by kernel_rfl) ?_
     refine EQ.exitCode ?_
     refine EQ.exitTo ?_
     refine EQ.exitHere ?_
     refine EQ.to ?_
     refine EQ.keep [0, 4, 5, 6] [(0, pt a0 0), (4, sv a3 a4 a1), (5, ic a2), (6, sv a9 b0 a5)] (by kernel_rfl) ?_
     exact fun a ha => ⟨c1, d5, a5, e7, f1, a9, b0, ha, (hS.re [2, 2, 2] [] rfl (sub_cons 0 rfl (sub_cons 2 rfl (sub_cons 3 rfl (sub_cons 4 rfl (sub_tail (sub_tail (sub_tail (sub_tail (sub_tail (sub_self))))))))))), H⟩
    obtain ⟨c8, d4, a8, e6, f0, c3, c5, ha, hS, H⟩ := hI
    rw [n0] at H
    (try dsimp only at H)
    refine EW.at ?_ a ha
    clear ha a
    refine EW.rg (by kernel_rfl) ?_
    refine EL.quick 2 [0, 5, 35, 36] [(0, pt a0 0), (5, ic a2), (35, sv a3 a4 a1), (36, sv c3 c5 a8)] (by kernel_rfl) ?_
    refine EL.of (EO.lit (xs := ([(c3, a8.length, c5)] : List Hdr)) hS Kd.hdr 25 24 1 #[(0, sv c3 c5 a8)] [sv c3 c5 a8] 37 (by kernel_rfl) (by kernel_rfl) (by kernel_rfl) (fun _ => (by kernel_rfl)) rfl (by kernel_rfl) (fun w G hr => ⟨[sv c3 c5 a8], [], rfl, rfl, rfl⟩) ?_)
    intro m0 w hS
    have hS := St.as (os' := Ass.deep 25 27 kS27 (some ⟨m0, 0, none⟩) 1 ([a8] : List (List S27)) :: Ass.box 69 a0 [sv e6 f0 c8, ia d4] :: Ass.deep 25 27 kS27 a3 a4 a1 :: os) (St.fold (B := B) (os := _) (rs := _) (et := 25) (et' := 27) (K := kS27) (hs := [(c3, a8.length, c5)]) (xs := ([a8] : List (List S27))) ⟨rfl, trivial⟩ (St.re hS [3, 1] [] rfl sub_self)) rfl
    obtain ⟨m3, H⟩ := ite_in H
    obtain ⟨e0, n2, H⟩ := lt_out H
    refine EL.of (EO.appendDeep hS 24 24 24 2 0 kS27 a3 a4 a1 rfl (some ⟨m0, 0, none⟩) 1 ([a8] : List (List S27)) rfl e0 n2 (fun f9 g1 => Ass.deep 25 27 kS27 f9 g1 e0 :: Ass.box 69 a0 [sv e6 f0 c8, ia d4] :: os) 38 (by kernel_rfl) (by kernel_rfl) (by kernel_rfl) (by kernel_rfl) m3 (fun _ _ => rfl) ?_)
    intro f9 g1 w hS
    refine EL.quick 1 [0, 4, 5] [(0, pt a0 0), (4, sv f9 g1 e0), (5, ic a2)] (by kernel_rfl) ?_
    refine EL.done (by kernel_rfl) ?_
    refine EQ.pop ?_
    refine EQ.to ?_
    refine EQ.keep [0, 4, 5] [(0, pt a0 0), (4, sv f9 g1 e0), (5, ic a2)] (by kernel_rfl) ?_
    exact fun a ha => ⟨e0, c8, d4, f9, g1, e6, f0, ha, (hS.re [1, 1] [] rfl (sub_cons 0 rfl (sub_cons 1 rfl (sub_cons 2 rfl (sub_cons 3 rfl (sub_tail (sub_tail (sub_tail (sub_tail (sub_self)))))))))), H⟩
   obtain ⟨c7, e4, f7, e5, e9, g8, i0, ha, hS, H⟩ := hI
   rw [m9] at H
   (try dsimp only at H)
   refine EW.at ?_ a ha
   clear ha a
   refine EW.rg (by kernel_rfl) ?_
   refine EL.quick 3 [0, 4, 5] [(0, pt a0 0), (4, sv e5 e9 c7), (5, ic (IntKind.u64.wrap (a2 - 1)))] (by kernel_rfl) ?_
   refine EL.done (by kernel_rfl) ?_
   refine EQ.to ?_
   refine EQ.keep [0, 4, 5] [(0, pt a0 0), (4, sv e5 e9 c7), (5, ic (IntKind.u64.wrap (a2 - 1)))] (by kernel_rfl) ?_
   exact fun a ha => ⟨n, Nat.lt_succ_self n, e4, f7, c7, IntKind.u64.wrap (a2 - 1), g8, i0, e5, e9, ha, (hS.re [0, 1] [] rfl (sub_cons 0 rfl (sub_cons 2 rfl (sub_cons 3 rfl (sub_tail (sub_tail (sub_tail (sub_tail (sub_self))))))))), H⟩
  rw [if_neg i4] at H
  refine EW.exit (id := 0) (by kernel_rfl) ?_
  refine EQ.exitCode ?_
  refine EQ.exitTo ?_
  refine EQ.exitHere ?_
  refine EQ.to ?_
  refine EQ.keep [0, 4] [(0, pt a0 0), (4, sv a3 a4 a1)] (by kernel_rfl) ?_
  exact fun a ha => ⟨b1, d3, a1, b9, c0, a3, a4, ha, (hS.re [1, 1] [] rfl (sub_cons 0 rfl (sub_cons 2 rfl (sub_tail (sub_tail (sub_tail (sub_self))))))), H⟩
 obtain ⟨d2, f6, b8, f8, g0, c2, c4, ha, hS, H⟩ := hI
 rw [m8] at H
 (try dsimp only at H)
 refine EW.at ?_ a ha
 clear ha a
 refine EW.sq (by kernel_rfl) ?_
 refine EW.sq (by kernel_rfl) ?_
 refine EW.rg (by kernel_rfl) ?_
 refine EL.quick 1 [4, 39] [(4, sv c2 c4 b8), (39, pt a0 0)] (by kernel_rfl) ?_
 have hS : St B _ (Ass.box 69 a0 [sv f8 g0 d2, ia f6] :: Ass.deep 25 27 kS27 c2 c4 b8 :: os) (Ro.sl (Kd.int .u8) f8 g0 d2 :: Ro.sl (Kd.int .u8) b2 b4 a7 :: rs) := hS.re [0] [] rfl (sub_cons 0 rfl (sub_tail (sub_self)))
 obtain ⟨j1, j2, g7, m7, H⟩ := b3_out H
 have hq := pack_Reader_Err.calls m7 hS
 refine EL.of (EO.callD 29 [pt a0 0] _ 40 (by kernel_rfl) (by kernel_rfl) (by kernel_rfl) hq ?_)
 rintro v w ⟨j5, j8, rfl, hS⟩
 refine EL.quick 1 [4, 41] [(4, sv c2 c4 b8), (41, .bool (!(decide (g7 = 0))))] (by kernel_rfl) ?_
 refine EL.done (by kernel_rfl) ?_
 refine EQ.code ?_
 refine EW.cdQ (b := !(decide (g7 = 0))) (g7 = 0) (false) (by kernel_rfl) (by kernel_rfl) ⟨fun h => (by rw [decide_eq_true h] <;> rfl), fun h => (by rw [decide_eq_false h] <;> rfl)⟩ (fun i7 => ?_) (fun i7 => ?_)
 ·rw [if_pos i7] at H
  refine EW.skip (by kernel_rfl) ?_
  refine EQ.code ?_
  refine EW.sq (by kernel_rfl) ?_
  refine EW.rg (by kernel_rfl) ?_
  refine EL.quick 3 [2, 3] [(2, sv c2 c4 b8), (3, .bool (true))] (by kernel_rfl) ?_
  refine EL.done (by kernel_rfl) ?_
  refine EQ.code ?_
  refine EW.ret (by kernel_rfl) ?_
  simp only [sv, Option.some.injEq, Prod.mk.injEq] at H
  obtain ⟨rfl, rfl, rfl, rfl⟩ := H
  exact EQ.leave (.tuple #[sv c2 c4 b8, .bool (true)]) (by kernel_rfl) ⟨_, rfl, j5, j8, c2, c4, rfl, (hS.re [1, 1] [] rfl (sub_cons 0 rfl (sub_tail (sub_tail (sub_self)))))⟩
 rw [if_neg i7] at H
 refine EW.sq (by kernel_rfl) ?_
 refine EW.rg (by kernel_rfl) ?_
 refine EL.quick 2 [2, 3] [(2, sv none 0 ([] : List (List S27))), (3, .bool (false))] (by kernel_rfl) ?_
 refine EL.done (by kernel_rfl) ?_
 refine EQ.code ?_
 refine EW.ret (by kernel_rfl) ?_
 refine EQ.ret ?_
 have hS := St.nilDeep hS 25 27 kS27
 simp only [sv, Option.some.injEq, Prod.mk.injEq] at H
 obtain ⟨rfl, rfl, rfl, rfl⟩ := H
 exact EQ.leave (.tuple #[sv none 0 ([] : List (List S27)), .bool (false)]) (by kernel_rfl) ⟨_, rfl, j5, j8, none, 0, rfl, (hS.re [0, 1] [2] rfl (sub_cons 0 rfl (sub_tail (sub_tail (sub_self)))))⟩

/-! ### slices.Equal[[]confidant/api.Instr,confidant/api.Instr]: function 23 -/
def api_Instr.l0 (K : Nat) (a0 : List S27) (a2 : List S27) : Nat → Int → Option Bool
 | 0, _ => none
 | n + 1, a1 => if a1 < (a0.length : Int) then (if 0 ≤ a1 then (if a1 < (a2.length : Int) then (if ((((a0.getD a1.toNat zS27).f0) == ((a2.getD a1.toNat zS27).f0)) && ((((a0.getD a1.toNat zS27).f1) == ((a2.getD a1.toNat zS27).f1)) && true)) = true then (api_Instr.l0 K a0 a2 n (IntKind.i64.wrap (a1 + 1))) else (some false)) else none) else none) else (some true)
def api_Instr.f (K : Nat) (a0 : List S27) (a2 : List S27) : Option Bool := if (a0.length : Int) = (a2.length : Int) then (api_Instr.l0 K a0 a2 K 0) else (some false)
set_option maxRecDepth 100000 in
theorem api_Instr.calls {K : Nat} {a0 : List S27} {a2 : List S27} {a5 : Option Addr} {a3 : Nat} {a6 : Option Addr} {a4 : Nat} {b4 : Bool} {B w : World} {os : List Ass} {rs : List Ro} (H : api_Instr.f K a0 a2 = some b4) (hS : St B w (os) (Ro.sl kS27 a5 a3 a0 :: Ro.sl kS27 a6 a4 a2 :: rs)) :
  Calls Tryd.prog 23 [sv a5 a3 a0, sv a6 a4 a2].toArray w (fun en w' => ∃ v, en = .returned v ∧ v = .bool (b4) ∧ St B w' (os) (Ro.sl kS27 a5 a3 a0 :: Ro.sl kS27 a6 a4 a2 :: rs)) := by
 unfold api_Instr.f at H
 refine calls_of_EW (args := [sv a5 a3 a0, sv a6 a4 a2]) (c := Cd23) 26 Tryd.func23 (by kernel_rfl) (by kernel_rfl) (by kernel_rfl) ?_
 refine EW.sq (by kernel_rfl) ?_
 refine EW.rg (by kernel_rfl) ?_
 refine EL.quick 1 [0, 1] [(0, sv a5 a3 a0), (1, sv a6 a4 a2)] (by kernel_rfl) ?_
 refine EL.done (by kernel_rfl) ?_
 refine EQ.code ?_
 refine EW.sq (by kernel_rfl) ?_
 refine EW.sq (by kernel_rfl) ?_
 refine EW.rg (by kernel_rfl) ?_
 refine EL.quick 5 [0, 1, 10] [(0, sv a5 a3 a0), (1, sv a6 a4 a2), (10, .bool (!(decide ((a0.length : Int) = (a2.length : Int)))))] (by kernel_rfl) ?_
 refine EL.done (by kernel_rfl) ?_
 refine EQ.code ?_
 refine EW.cdQ (b := !(decide ((a0.length : Int) = (a2.length : Int)))) ((a0.length : Int) = (a2.length : Int)) (false) (by kernel_rfl) (by kernel_rfl) ⟨fun h => (by rw [decide_eq_true h] <;> rfl), fun h => (by rw [decide_eq_false h] <;> rfl)⟩ (fun b1 => ?_) (fun b1 => ?_)
 ·rw [if_pos b1] at H
  refine EW.skip (by kernel_rfl) ?_
  refine EQ.code ?_
  refine EW.sq (by kernel_rfl) ?_
  refine EW.sq (by kernel_rfl) ?_
  refine EW.rg (by kernel_rfl) ?_
  refine EL.quick 3 [0, 1, 12, 13] [(0, sv a5 a3 a0), (1, sv a6 a4 a2), (12, ia (a0.length : Int)), (13, ia 0)] (by kernel_rfl) ?_
  refine EL.done (by kernel_rfl) ?_
  refine EQ.code ?_
  refine EW.bl 0 (by kernel_rfl) ?_
  refine EW.lp (fun n a w => ∃ a1 : Int, Sat 26 [(0, sv a5 a3 a0), (1, sv a6 a4 a2), (12, ia (a0.length : Int)), (13, ia a1)] a ∧ St B w (os) (Ro.sl kS27 a5 a3 a0 :: Ro.sl kS27 a6 a4 a2 :: rs) ∧ api_Instr.l0 K a0 a2 n a1 = some b4) K (by kernel_rfl) ?_ (fun n a w hI => ?_)
  ·refine EQ.keep [0, 1, 12, 13] [(0, sv a5 a3 a0), (1, sv a6 a4 a2), (12, ia (a0.length : Int)), (13, ia 0)] (by kernel_rfl) ?_
   exact fun a ha => ⟨0, ha, (hS.re [] [] rfl (sub_cons 0 rfl (sub_cons 1 rfl (sub_tail (sub_tail (sub_self)))))), H⟩
  obtain ⟨a1, ha, hS, H⟩ := hI
  obtain _ | n := n
  ·simp [api_Instr.l0] at H
  rw [api_Instr.l0.eq_2] at H
  refine EW.at ?_ a ha
  clear ha a
  refine EW.sq (by kernel_rfl) ?_
  refine EW.rg (by kernel_rfl) ?_
  refine EL.quick 1 [0, 1, 12, 13, 14] [(0, sv a5 a3 a0), (1, sv a6 a4 a2), (12, ia (a0.length : Int)), (13, ia a1), (14, .bool (decide (a1 < (a0.length : Int))))] (by kernel_rfl) ?_
  refine EL.done (by kernel_rfl) ?_
  refine EQ.code ?_
  refine EW.sq (by kernel_rfl) ?_
  refine EW.cdP (a1 < (a0.length : Int)) (by kernel_rfl) (by kernel_rfl) (fun a9 => ?_) (fun a9 => ?_)
  ·rw [if_pos a9] at H
   refine EW.skip (by kernel_rfl) ?_
   refine EQ.code ?_
   refine EW.sq (by kernel_rfl) ?_
   refine EW.bl 1 (by kernel_rfl) ?_
   refine EW.sq (by kernel_rfl) ?_
   refine EW.rg (by kernel_rfl) ?_
   refine EL.quick 2 [0, 1, 5, 12, 13] [(0, sv a5 a3 a0), (1, sv a6 a4 a2), (5, ia a1), (12, ia (a0.length : Int)), (13, ia a1)] (by kernel_rfl) ?_
   refine EL.done (by kernel_rfl) ?_
   refine EQ.code ?_
   refine EW.sq (by kernel_rfl) ?_
   obtain ⟨b0, H⟩ := ite_in H
   obtain ⟨a7, rfl⟩ := St.rd_some hS (Rd.ro 0 rfl) b0 a9
   obtain ⟨b2, H⟩ := ite_in H
   obtain ⟨a8, rfl⟩ := St.rd_some hS (Rd.ro 1 rfl) b0 b2
   have hS := hS.drew
   refine EW.dr (B := B) [] [Ro.sl kS27 (some a7) a3 a0, Ro.sl kS27 (some a8) a4 a2] (by kernel_rfl) (by kernel_rfl) ?_
   have hN : Region.noSelect Cd23.r.r.l.r.l.l.r.r.l.l.r.l.ops = true := (by kernel_rfl)
   have hF : freeAll Cd23.r.r.l.r.l.l.r.r.l.l.r.l.ops = true := (by kernel_rfl)
   have hC : Core B [] [Ro.sl kS27 (some a7) a3 a0, Ro.sl kS27 (some a8) a4 a2] _ := ⟨_, _, hS⟩
   refine ED.quick hN hF hC [0, 1, 4, 5] [0, 1, 12, 13, 16, 17, 20, 21] 5 [(0, sv (some a7) a3 a0), (1, sv (some a8) a4 a2), (12, ia (a0.length : Int)), (13, ia a1), (16, sv (some a7) a3 a0), (17, ia a1), (20, sv (some a8) a4 a2), (21, ia a1)] (bm 9 51) (by kernel_rfl) (by kernel_rfl) ?_
   refine ED.Y hN hF hC 2 4 (bm 9 55) (by kernel_rfl) (by kernel_rfl) rfl (fun _ _ _ hS => YO.idx 25 2 a7 a0.length a3 .i64 a1 18 (by kernel_rfl) (by kernel_rfl) (by kernel_rfl) (by kernel_rfl) b0 a9) ?_
   refine ED.Y hN hF hC 3 3 (bm 9 63) (by kernel_rfl) (by kernel_rfl) rfl (fun _ _ _ hS => YO.loadEl hS kS27 a7 a3 a0 (Rd.ro 0 rfl) zS27 encS27 encS27_of a1 b0 a9 27 2 0 2 rfl (ag [ia ((a0.getD a1.toNat zS27).f0), ib ((a0.getD a1.toNat zS27).f1)]) 19 (by kernel_rfl) (by kernel_rfl) (by kernel_rfl) (by kernel_rfl)) ?_
   refine ED.Y hN hF hC 6 2 (bm 9 127) (by kernel_rfl) (by kernel_rfl) rfl (fun _ _ _ hS => YO.idx 25 2 a8 a2.length a4 .i64 a1 22 (by kernel_rfl) (by kernel_rfl) (by kernel_rfl) (by kernel_rfl) b0 b2) ?_
   refine ED.Y hN hF hC 7 1 (bm 9 255) (by kernel_rfl) (by kernel_rfl) rfl (fun _ _ _ hS => YO.loadEl hS kS27 a8 a4 a2 (Rd.ro 1 rfl) zS27 encS27 encS27_of a1 b0 b2 27 2 0 2 rfl (ag [ia ((a2.getD a1.toNat zS27).f0), ib ((a2.getD a1.toNat zS27).f1)]) 23 (by kernel_rfl) (by kernel_rfl) (by kernel_rfl) (by kernel_rfl)) ?_
   refine ED.Y hN hF hC 8 0 (bm 9 511) (by kernel_rfl) (by kernel_rfl) rfl (fun _ _ _ hS => YO.eqAg .neq 27 (.tmp 19) (.tmp 23) #[ia ((a0.getD a1.toNat zS27).f0), ib ((a0.getD a1.toNat zS27).f1)] #[ia ((a2.getD a1.toNat zS27).f0), ib ((a2.getD a1.toNat zS27).f1)] ((((a0.getD a1.toNat zS27).f0) == ((a2.getD a1.toNat zS27).f0)) && ((((a0.getD a1.toNat zS27).f1) == ((a2.getD a1.toNat zS27).f1)) && true)) (!(((((a0.getD a1.toNat zS27).f0) == ((a2.getD a1.toNat zS27).f0)) && ((((a0.getD a1.toNat zS27).f1) == ((a2.getD a1.toNat zS27).f1)) && true)))) 24 (by kernel_rfl) (by kernel_rfl) (by kernel_rfl) (by kernel_rfl) (by kernel_rfl) (.inr ⟨rfl, rfl⟩)) ?_
   refine ED.done (by kernel_rfl) ?_
   refine EQ.code ?_
   refine EW.cdQ (b := !(((((a0.getD a1.toNat zS27).f0) == ((a2.getD a1.toNat zS27).f0)) && ((((a0.getD a1.toNat zS27).f1) == ((a2.getD a1.toNat zS27).f1)) && true)))) (((((a0.getD a1.toNat zS27).f0) == ((a2.getD a1.toNat zS27).f0)) && ((((a0.getD a1.toNat zS27).f1) == ((a2.getD a1.toNat zS27).f1)) && true)) = true) (false) (by kernel_rfl) (by kernel_rfl) ⟨fun h => (by rw [h] <;> rfl), fun h => (by rw [Bool.eq_false_iff.2 h] <;> rfl)⟩ (fun b3 => ?_) (fun b3 => ?_)
   ·rw [if_pos b3] at H
    refine EW.skip (by kernel_rfl) ?_
    refine EQ.pop ?_
    refine EQ.code ?_
    refine EW.rg (by kernel_rfl) ?_
    refine EL.quick 2 [0, 1, 12, 13] [(0, sv (some a7) a3 a0), (1, sv (some a8) a4 a2), (12, ia (a0.length : Int)), (13, ia (IntKind.i64.wrap (a1 + 1)))] (by kernel_rfl) ?_
    refine EL.done (by kernel_rfl) ?_
    refine EQ.to ?_
    refine EQ.keep [0, 1, 12, 13] [(0, sv (some a7) a3 a0), (1, sv (some a8) a4 a2), (12, ia (a0.length : Int)), (13, ia (IntKind.i64.wrap (a1 + 1)))] (by kernel_rfl) ?_
    exact fun a ha => ⟨n, Nat.lt_succ_self n, IntKind.i64.wrap (a1 + 1), ha, (hS.re [] [] rfl (sub_cons 0 rfl (sub_cons 1 rfl (sub_tail (sub_tail (sub_self)))))), H⟩
   rw [if_neg b3] at H
   refine EW.sq (by kernel_rfl) ?_
   refine EW.rg (by kernel_rfl) ?_
   refine EL.quick 1 [4] [(4, .bool (false))] (by kernel_rfl) ?_
   refine EL.done (by kernel_rfl) ?_
   refine EQ.code ?_
   refine EW.ret (by kernel_rfl) ?_
   refine EQ.ret ?_
   refine EQ.ret ?_
   refine EQ.ret ?_
   refine EQ.ret ?_
   refine EQ.ret ?_
   obtain rfl := Option.some.inj H
   exact EQ.leave (.bool (false)) (by kernel_rfl) ⟨_, rfl, rfl, (hS.re [] [] rfl (sub_self))⟩
  rw [if_neg a9] at H
  refine EW.exit (id := 0) (by kernel_rfl) ?_
  refine EQ.exitCode ?_
  refine EQ.exitTo ?_
  refine EQ.exitHere ?_
  refine EQ.code ?_
  refine EW.sq (by kernel_rfl) ?_
  refine EW.rg (by kernel_rfl) ?_
  refine EL.quick 1 [4] [(4, .bool (true))] (by kernel_rfl) ?_
  refine EL.done (by kernel_rfl) ?_
  refine EQ.code ?_
  refine EW.ret (by kernel_rfl) ?_
  obtain rfl := Option.some.inj H
  exact EQ.leave (.bool (true)) (by kernel_rfl) ⟨_, rfl, rfl, (hS.re [] [] rfl (sub_self))⟩
 rw [if_neg b1] at H
 refine EW.sq (by kernel_rfl) ?_
 refine EW.rg (by kernel_rfl) ?_
 refine EL.quick 1 [4] [(4, .bool (false))] (by kernel_rfl) ?_
 refine EL.done (by kernel_rfl) ?_
 refine EQ.code ?_
 refine EW.ret (by kernel_rfl) ?_
 refine EQ.ret ?_
 obtain rfl := Option.some.inj H
 exact EQ.leave (.bool (false)) (by kernel_rfl) ⟨_, rfl, rfl, (hS.re [] [] rfl (sub_self))⟩

/-! ### confidant/image.Same$1: function 22 -/
def image_Same_1.f (K : Nat) (a0 : List S27) (a1 : List S27) : Option Bool := b1 (api_Instr.f K a0 a1) fun (a6 : Bool) => (some a6)
set_option maxRecDepth 100000 in
theorem image_Same_1.calls {K : Nat} {a0 : List S27} {a1 : List S27} {a2 : Option Addr} {a4 : Nat} {a3 : Option Addr} {a5 : Nat} {a7 : Bool} {B w : World} {os : List Ass} {rs : List Ro} (H : image_Same_1.f K a0 a1 = some a7) (hS : St B w (os) (Ro.sl kS27 a2 a4 a0 :: Ro.sl kS27 a3 a5 a1 :: rs)) :
  Calls Tryd.prog 22 [sv a2 a4 a0, sv a3 a5 a1].toArray w (fun en w' => ∃ v, en = .returned v ∧ v = .bool (a7) ∧ St B w' (os) (Ro.sl kS27 a2 a4 a0 :: Ro.sl kS27 a3 a5 a1 :: rs)) := by
 unfold image_Same_1.f at H
 refine calls_of_EW (args := [sv a2 a4 a0, sv a3 a5 a1]) (c := Cd22) 8 Tryd.func22 (by kernel_rfl) (by kernel_rfl) (by kernel_rfl) ?_
 refine EW.sq (by kernel_rfl) ?_
 refine EW.rg (by kernel_rfl) ?_
 refine EL.quick 1 [0, 1] [(0, sv a2 a4 a0), (1, sv a3 a5 a1)] (by kernel_rfl) ?_
 refine EL.done (by kernel_rfl) ?_
 refine EQ.code ?_
 refine EW.sq (by kernel_rfl) ?_
 refine EW.rg (by kernel_rfl) ?_
 refine EL.quick 2 [5, 6] [(5, sv a2 a4 a0), (6, sv a3 a5 a1)] (by kernel_rfl) ?_
 have hS : St B _ (os) (Ro.sl kS27 a2 a4 a0 :: Ro.sl kS27 a3 a5 a1 :: rs) := hS.re [] [] rfl (sub_cons 0 rfl (sub_cons 1 rfl (sub_tail (sub_tail (sub_self)))))
 obtain ⟨a6, a8, H⟩ := b1_out H
 have hq := api_Instr.calls a8 hS
 refine EL.of (EO.callD 23 [sv a2 a4 a0, sv a3 a5 a1] _ 7 (by kernel_rfl) (by kernel_rfl) (by kernel_rfl) hq ?_)
 rintro v w ⟨rfl, hS⟩
 refine EL.quick 1 [4] [(4, .bool (a6))] (by kernel_rfl) ?_
 refine EL.done (by kernel_rfl) ?_
 refine EQ.code ?_
 refine EW.ret (by kernel_rfl) ?_
 obtain rfl := Option.some.inj H
 exact EQ.leave (.bool (a6)) (by kernel_rfl) ⟨_, rfl, rfl, (hS.re [] [] rfl (sub_self))⟩

/-! ### confidant/image.Same: function 9 -/
def image_Same.l0 (K : Nat) (a0 : List (List S27)) (a1 : List (List S27)) (a8 : Bool → Option Bool) : Nat → Int → Option Bool
 | 0, _ => none
 | n + 1, a2 => if a2 < (a0.length : Int) then (if 0 ≤ a2 then (if a2 < (a1.length : Int) then (b1 (image_Same_1.f K (a0.getD a2.toNat []) (a1.getD a2.toNat [])) fun (b6 : Bool) => (if b6 = true then (image_Same.l0 K a0 a1 a8 n (IntKind.i64.wrap (a2 + 1))) else (a8 false))) else none) else none) else (a8 true)
def image_Same.f (K : Nat) (a0 : List (List S27)) (a1 : List (List S27)) : Option Bool := lt (fun (b0 : Bool) => (some b0)) fun a8 => (if (a0.length : Int) = (a1.length : Int) then (image_Same.l0 K a0 a1 a8 K 0) else (a8 false))
set_option maxRecDepth 100000 in
theorem image_Same.calls {K : Nat} {a0 : List (List S27)} {a1 : List (List S27)} {a6 : Option Addr} {a4 : Nat} {a5 : Option Addr} {a3 : Nat} {b9 : Bool} {B w : World} {os : List Ass} {rs : List Ro} (H : image_Same.f K a0 a1 = some b9) (hS : St B w (os) (Ro.sl (Kd.slice kS27) a6 a4 a0 :: Ro.sl (Kd.slice kS27) a5 a3 a1 :: rs)) :
  Calls Tryd.prog 9 [sv a6 a4 a0, sv a5 a3 a1].toArray w (fun en w' => ∃ v, en = .returned v ∧ v = .bool (b9) ∧ St B w' (os) (Ro.sl (Kd.slice kS27) a6 a4 a0 :: Ro.sl (Kd.slice kS27) a5 a3 a1 :: rs)) := by
 unfold image_Same.f at H
 refine calls_of_EW (args := [sv a6 a4 a0, sv a5 a3 a1]) (c := Cd9) 8 Tryd.func9 (by kernel_rfl) (by kernel_rfl) (by kernel_rfl) ?_
 refine EW.sq (by kernel_rfl) ?_
 refine EW.rg (by kernel_rfl) ?_
 refine EL.quick 1 [0, 1] [(0, sv a6 a4 a0), (1, sv a5 a3 a1)] (by kernel_rfl) ?_
 refine EL.done (by kernel_rfl) ?_
 refine EQ.code ?_
 refine EW.sq (by kernel_rfl) ?_
 refine EW.rg (by kernel_rfl) ?_
 refine EL.quick 2 [5, 6] [(5, sv a6 a4 a0), (6, sv a5 a3 a1)] (by kernel_rfl) ?_
 obtain ⟨a8, c4, H⟩ := lt_out H
 refine EL.of (EO.callD 21 [sv a6 a4 a0, sv a5 a3 a1, .func (.func 22) #[] #[]] (fun v w => ∃ b0 : Bool, v = .bool (b0) ∧ St B w (os) (Ro.sl (Kd.slice kS27) a6 a4 a0 :: Ro.sl (Kd.slice kS27) a5 a3 a1 :: rs) ∧ a8 b0 = some b9) 7 (by kernel_rfl) (by kernel_rfl) (by kernel_rfl) ?_ ?_)
 ·refine calls_of_EW (args := [sv a6 a4 a0, sv a5 a3 a1, .func (.func 22) #[] #[]]) (c := Cd21) 32 Tryd.func21 (by kernel_rfl) (by kernel_rfl) (by kernel_rfl) ?_
  refine EW.sq (by kernel_rfl) ?_
  refine EW.rg (by kernel_rfl) ?_
  refine EL.quick 1 [0, 1, 2] [(0, sv a6 a4 a0), (1, sv a5 a3 a1), (2, .func (.func 22) #[] #[])] (by kernel_rfl) ?_
  refine EL.done (by kernel_rfl) ?_
  refine EQ.code ?_
  refine EW.sq (by kernel_rfl) ?_
  refine EW.sq (by kernel_rfl) ?_
  refine EW.rg (by kernel_rfl) ?_
  refine EL.quick 5 [0, 1, 2, 14] [(0, sv a6 a4 a0), (1, sv a5 a3 a1), (2, .func (.func 22) #[] #[]), (14, .bool (!(decide ((a0.length : Int) = (a1.length : Int)))))] (by kernel_rfl) ?_
  refine EL.done (by kernel_rfl) ?_
  refine EQ.code ?_
  refine EW.cdQ (b := !(decide ((a0.length : Int) = (a1.length : Int)))) ((a0.length : Int) = (a1.length : Int)) (false) (by kernel_rfl) (by kernel_rfl) ⟨fun h => (by rw [decide_eq_true h] <;> rfl), fun h => (by rw [decide_eq_false h] <;> rfl)⟩ (fun c0 => ?_) (fun c0 => ?_)
  ·rw [if_pos c0] at H
   refine EW.skip (by kernel_rfl) ?_
   refine EQ.code ?_
   refine EW.sq (by kernel_rfl) ?_
   refine EW.sq (by kernel_rfl) ?_
   refine EW.rg (by kernel_rfl) ?_
   refine EL.quick 3 [1, 2, 15, 16, 17] [(1, sv a5 a3 a1), (2, .func (.func 22) #[] #[]), (15, sv a6 a4 a0), (16, ia (a0.length : Int)), (17, ia 0)] (by kernel_rfl) ?_
   refine EL.done (by kernel_rfl) ?_
   refine EQ.code ?_
   refine EW.bl 0 (by kernel_rfl) ?_
   refine EW.lp (fun n a w => ∃ a2 : Int, Sat 32 [(1, sv a5 a3 a1), (2, .func (.func 22) #[] #[]), (15, sv a6 a4 a0), (16, ia (a0.length : Int)), (17, ia a2)] a ∧ St B w (os) (Ro.sl (Kd.slice kS27) a6 a4 a0 :: Ro.sl (Kd.slice kS27) a5 a3 a1 :: rs) ∧ image_Same.l0 K a0 a1 a8 n a2 = some b9) K (by kernel_rfl) ?_ (fun n a w hI => ?_)
   ·refine EQ.keep [1, 2, 15, 16, 17] [(1, sv a5 a3 a1), (2, .func (.func 22) #[] #[]), (15, sv a6 a4 a0), (16, ia (a0.length : Int)), (17, ia 0)] (by kernel_rfl) ?_
    exact fun a ha => ⟨0, ha, (hS.re [] [] rfl (sub_cons 0 rfl (sub_cons 1 rfl (sub_tail (sub_tail (sub_self)))))), H⟩
   obtain ⟨a2, ha, hS, H⟩ := hI
   obtain _ | n := n
   ·simp [image_Same.l0] at H
   rw [image_Same.l0.eq_2] at H
   refine EW.at ?_ a ha
   clear ha a
   refine EW.sq (by kernel_rfl) ?_
   refine EW.rg (by kernel_rfl) ?_
   refine EL.quick 1 [1, 2, 15, 16, 17, 18] [(1, sv a5 a3 a1), (2, .func (.func 22) #[] #[]), (15, sv a6 a4 a0), (16, ia (a0.length : Int)), (17, ia a2), (18, .bool (decide (a2 < (a0.length : Int))))] (by kernel_rfl) ?_
   refine EL.done (by kernel_rfl) ?_
   refine EQ.code ?_
   refine EW.sq (by kernel_rfl) ?_
   refine EW.cdP (a2 < (a0.length : Int)) (by kernel_rfl) (by kernel_rfl) (fun b4 => ?_) (fun b4 => ?_)
   ·rw [if_pos b4] at H
    refine EW.skip (by kernel_rfl) ?_
    refine EQ.code ?_
    refine EW.sq (by kernel_rfl) ?_
    refine EW.bl 1 (by kernel_rfl) ?_
    refine EW.sq (by kernel_rfl) ?_
    refine EW.rg (by kernel_rfl) ?_
    refine EL.quick 1 [1, 2, 15, 16, 17, 19] [(1, sv a5 a3 a1), (2, .func (.func 22) #[] #[]), (15, sv a6 a4 a0), (16, ia (a0.length : Int)), (17, ia a2), (19, ia a2)] (by kernel_rfl) ?_
    obtain ⟨b5, H⟩ := ite_in H
    obtain ⟨a7, rfl⟩ := St.rd_some hS (Rd.ro 0 rfl) b5 b4
    refine EL.of (EO.Y (YO.idx 24 1 a7 a0.length a4 .i64 a2 20 (by kernel_rfl) (by kernel_rfl) (by kernel_rfl) (by kernel_rfl) b5 b4) ?_)
    refine EL.of (EO.loadSl hS kS27 a7 a4 a0 (Rd.ro 0 rfl) a2 b5 b4 25 21 (by kernel_rfl) (by kernel_rfl) (by kernel_rfl) (by kernel_rfl) ?_)
    intro b2 b3 hS
    refine EL.quick 2 [1, 2, 7, 8, 15, 16, 17] [(1, sv a5 a3 a1), (2, .func (.func 22) #[] #[]), (7, ia a2), (8, sv b2 b3 (a0.getD a2.toNat [])), (15, sv (some a7) a4 a0), (16, ia (a0.length : Int)), (17, ia a2)] (by kernel_rfl) ?_
    refine EL.done (by kernel_rfl) ?_
    refine EQ.code ?_
    refine EW.sq (by kernel_rfl) ?_
    refine EW.rg (by kernel_rfl) ?_
    refine EL.quick 2 [1, 2, 8, 15, 16, 17, 22, 23] [(1, sv a5 a3 a1), (2, .func (.func 22) #[] #[]), (8, sv b2 b3 (a0.getD a2.toNat [])), (15, sv (some a7) a4 a0), (16, ia (a0.length : Int)), (17, ia a2), (22, sv a5 a3 a1), (23, ia a2)] (by kernel_rfl) ?_
    obtain ⟨c1, H⟩ := ite_in H
    obtain ⟨a9, rfl⟩ := St.rd_some hS (Rd.ro 2 rfl) b5 c1
    refine EL.of (EO.Y (YO.idx 24 1 a9 a1.length a3 .i64 a2 24 (by kernel_rfl) (by kernel_rfl) (by kernel_rfl) (by kernel_rfl) b5 c1) ?_)
    refine EL.of (EO.loadSl hS kS27 a9 a3 a1 (Rd.ro 2 rfl) a2 b5 c1 25 25 (by kernel_rfl) (by kernel_rfl) (by kernel_rfl) (by kernel_rfl) ?_)
    intro b7 b8 hS
    refine EL.quick 1 [1, 2, 8, 9, 15, 16, 17] [(1, sv (some a9) a3 a1), (2, .func (.func 22) #[] #[]), (8, sv b2 b3 (a0.getD a2.toNat [])), (9, sv b7 b8 (a1.getD a2.toNat [])), (15, sv (some a7) a4 a0), (16, ia (a0.length : Int)), (17, ia a2)] (by kernel_rfl) ?_
    refine EL.done (by kernel_rfl) ?_
    refine EQ.code ?_
    refine EW.sq (by kernel_rfl) ?_
    refine EW.rg (by kernel_rfl) ?_
    refine EL.quick 3 [1, 2, 15, 16, 17, 26, 27, 28] [(1, sv (some a9) a3 a1), (2, .func (.func 22) #[] #[]), (15, sv (some a7) a4 a0), (16, ia (a0.length : Int)), (17, ia a2), (26, .func (.func 22) #[] #[]), (27, sv b2 b3 (a0.getD a2.toNat [])), (28, sv b7 b8 (a1.getD a2.toNat []))] (by kernel_rfl) ?_
    have hS : St B _ (os) (Ro.sl kS27 b2 b3 (a0.getD a2.toNat []) :: Ro.sl kS27 b7 b8 (a1.getD a2.toNat []) :: Ro.sl (Kd.slice kS27) (some a7) a4 a0 :: Ro.sl (Kd.slice kS27) (some a9) a3 a1 :: rs) := hS.re [] [] rfl (sub_cons 1 rfl (sub_cons 0 rfl (sub_tail (sub_tail (sub_self)))))
    obtain ⟨b6, c3, H⟩ := b1_out H
    have hq := image_Same_1.calls c3 hS
    refine EL.of (EO.callD 22 [sv b2 b3 (a0.getD a2.toNat []), sv b7 b8 (a1.getD a2.toNat [])] _ 29 (by kernel_rfl) (by kernel_rfl) (by kernel_rfl) hq ?_)
    rintro v w ⟨rfl, hS⟩
    refine EL.quick 1 [1, 2, 15, 16, 17, 30] [(1, sv (some a9) a3 a1), (2, .func (.func 22) #[] #[]), (15, sv (some a7) a4 a0), (16, ia (a0.length : Int)), (17, ia a2), (30, .bool (!(b6)))] (by kernel_rfl) ?_
    refine EL.done (by kernel_rfl) ?_
    refine EQ.code ?_
    refine EW.cdQ (b := !(b6)) (b6 = true) (false) (by kernel_rfl) (by kernel_rfl) ⟨fun h => (by rw [h] <;> rfl), fun h => (by rw [Bool.eq_false_iff.2 h] <;> rfl)⟩ (fun c2 => ?_) (fun c2 => ?_)
    ·rw [if_pos c2] at H
     refine EW.skip (by kernel_rfl) ?_
     refine EQ.pop ?_
     refine EQ.code ?_
     refine EW.rg (by kernel_rfl) ?_
     refine EL.quick 2 [1, 2, 15, 16, 17] [(1, sv (some a9) a3 a1), (2, .func (.func 22) #[] #[]), (15, sv (some a7) a4 a0), (16, ia (a0.length : Int)), (17, ia (IntKind.i64.wrap (a2 + 1)))] (by kernel_rfl) ?_
     refine EL.done (by kernel_rfl) ?_
     refine EQ.to ?_
     refine EQ.keep [1, 2, 15, 16, 17] [(1, sv (some a9) a3 a1), (2, .func (.func 22) #[] #[]), (15, sv (some a7) a4 a0), (16, ia (a0.length : Int)), (17, ia (IntKind.i64.wrap (a2 + 1)))] (by kernel_rfl) ?_
     exact fun a ha => ⟨n, Nat.lt_succ_self n, IntKind.i64.wrap (a2 + 1), ha, (hS.re [] [] rfl (sub_cons 2 rfl (sub_cons 3 rfl (sub_tail (sub_tail (sub_tail (sub_tail (sub_self)))))))), H⟩
    rw [if_neg c2] at H
    refine EW.sq (by kernel_rfl) ?_
    refine EW.rg (by kernel_rfl) ?_
    refine EL.quick 1 [6] [(6, .bool (false))] (by kernel_rfl) ?_
    refine EL.done (by kernel_rfl) ?_
    refine EQ.code ?_
    refine EW.ret (by kernel_rfl) ?_
    refine EQ.ret ?_
    refine EQ.ret ?_
    refine EQ.ret ?_
    refine EQ.ret ?_
    refine EQ.ret ?_
    exact EQ.leave (.bool (false)) (by kernel_rfl) ⟨_, rfl, false, rfl, (hS.re [] [] rfl (sub_cons 2 rfl (sub_cons 3 rfl (sub_tail (sub_tail (sub_tail (sub_tail (sub_self)))))))), H⟩
   rw [if_neg b4] at H
   refine EW.exit (id := 0) (by kernel_rfl) ?_
   refine EQ.exitCode ?_
   refine EQ.exitTo ?_
   refine EQ.exitHere ?_
   refine EQ.code ?_
   refine EW.sq (by kernel_rfl) ?_
   refine EW.rg (by kernel_rfl) ?_
   refine EL.quick 1 [6] [(6, .bool (true))] (by kernel_rfl) ?_
   refine EL.done (by kernel_rfl) ?_
   refine EQ.code ?_
   refine EW.ret (by kernel_rfl) ?_
   exact EQ.leave (.bool (true)) (by kernel_rfl) ⟨_, rfl, true, rfl, (hS.re [] [] rfl (sub_cons 0 rfl (sub_cons 1 rfl (sub_tail (sub_tail (sub_self)))))), H⟩
  rw [if_neg c0] at H
  refine EW.sq (by kernel_rfl) ?_
  refine EW.rg (by kernel_rfl) ?_
  refine EL.quick 1 [6] [(6, .bool (false))] (by kernel_rfl) ?_
  refine EL.done (by kernel_rfl) ?_
  refine EQ.code ?_
  refine EW.ret (by kernel_rfl) ?_
  refine EQ.ret ?_
  exact EQ.leave (.bool (false)) (by kernel_rfl) ⟨_, rfl, false, rfl, (hS.re [] [] rfl (sub_cons 0 rfl (sub_cons 1 rfl (sub_tail (sub_tail (sub_self)))))), H⟩
 ·rintro v w ⟨b0, rfl, hS, H⟩
  rw [c4] at H
  (try dsimp only at H)
  refine EL.quick 1 [4] [(4, .bool (b0))] (by kernel_rfl) ?_
  refine EL.done (by kernel_rfl) ?_
  refine EQ.code ?_
  refine EW.ret (by kernel_rfl) ?_
  obtain rfl := Option.some.inj H
  exact EQ.leave (.bool (b0)) (by kernel_rfl) ⟨_, rfl, rfl, (hS.re [] [] rfl (sub_self))⟩

/-! ### confidant/image.Text: function 10 -/
def image_Text.l1 (K : Nat) (a0 : List (List S27)) (a1 : Int) (b4 : ByteArray → Option ByteArray) : Nat → ByteArray → Int → Option ByteArray
 | 0, _, _ => none
 | n + 1, a8, a2 => if a2 < ((a0.getD a1.toNat []).length : Int) then (if 0 ≤ a2 then (b1 (instr_Text.f K (((a0.getD a1.toNat []).getD a2.toNat zS27).f0) (((a0.getD a1.toNat []).getD a2.toNat zS27).f1)) fun (b7 : ByteArray) => (if b7.size + (⟨#[10]⟩ : ByteArray).size ≤ 9223372036854775807 then (if a8.size + (b7 ++ (⟨#[10]⟩ : ByteArray)).size ≤ 140737488355328 then (lt (a8 ++ (b7 ++ (⟨#[10]⟩ : ByteArray))) fun c4 => (image_Text.l1 K a0 a1 b4 n c4 (IntKind.i64.wrap (a2 + 1)))) else none) else none)) else none) else (b4 a8)
def image_Text.l0 (K : Nat) (a0 : List (List S27)) (b3 : ByteArray → Option ByteArray) : Nat → ByteArray → Int → Option ByteArray
 | 0, _, _ => none
 | n + 1, a9, a1 => if a1 < (a0.length : Int) then (lt (fun (b9 : ByteArray) => (image_Text.l0 K a0 b3 n b9 (IntKind.i64.wrap (a1 + 1)))) fun b4 => (if 0 ≤ a1 then (if a9.size + (⟨#[102, 117, 110, 99, 10]⟩ : ByteArray).size ≤ 140737488355328 then (lt (a9 ++ (⟨#[102, 117, 110, 99, 10]⟩ : ByteArray)) fun c3 => (image_Text.l1 K a0 a1 b4 K c3 0)) else none) else none)) else (b3 a9)
def image_Text.f (K : Nat) (a0 : List (List S27)) : Option ByteArray := lt (fun (b0 : ByteArray) => (some b0)) fun b3 => (image_Text.l0 K a0 b3 K (⟨#[]⟩ : ByteArray) 0)
set_option maxRecDepth 100000 in
theorem image_Text.calls {K : Nat} {a0 : List (List S27)} {a5 : Option Addr} {a3 : Nat} {b8 : ByteArray} {B w : World} {os : List Ass} {rs : List Ro} (H : image_Text.f K a0 = some b8) (hS : St B w (os) (Ro.sl (Kd.slice kS27) a5 a3 a0 :: rs)) (gB : Glob B) :
  Calls Tryd.prog 10 [sv a5 a3 a0].toArray w (fun en w' => ∃ v, en = .returned v ∧ v = .string b8 ∧ St B w' (os) (Ro.sl (Kd.slice kS27) a5 a3 a0 :: rs)) := by
 unfold image_Text.f at H
 refine bld_entry hS fun B os hB hos h0b hS1 => ?_
 have gB : Glob B := by rw [hB]; exact Glob.of hS gB
 have hS := hS1
 refine calls_of_EW (args := [sv a5 a3 a0]) (c := Cd10) 28 Tryd.func10 (by kernel_rfl) (by kernel_rfl) (by kernel_rfl) ?_
 refine EW.sq (by kernel_rfl) ?_
 refine EW.rg (by kernel_rfl) ?_
 refine EL.quick 1 [0] [(0, sv a5 a3 a0)] (by kernel_rfl) ?_
 refine EL.done (by kernel_rfl) ?_
 refine EQ.code ?_
 refine EW.sq (by kernel_rfl) ?_
 refine EW.rg (by kernel_rfl) ?_
 refine EL.of (EO.bld hS 58 5 (.agg #[.pointer none, .slice none 0 0]) 3 (by kernel_rfl) (by kernel_rfl) (by kernel_rfl) (by kernel_rfl) rfl ?_)
 intro a4 w hS
 refine EL.done (by kernel_rfl) ?_
 refine EQ.code ?_
 obtain ⟨b3, d0, H⟩ := lt_out H
 refine EW.ct (fun a w => ∃ b0 : ByteArray, Sat 28 [(3, pt a4 0)] a ∧ St B w (Ass.bld 58 5 a4 b0 :: os) (Ro.sl (Kd.slice kS27) a5 a3 a0 :: rs) ∧ b3 b0 = some b8) (by kernel_rfl) ?_ (fun a w hI => ?_)
 ·refine EW.sq (by kernel_rfl) ?_
  refine EW.rg (by kernel_rfl) ?_
  refine EL.quick 3 [3, 8, 9, 10] [(3, pt a4 0), (8, sv a5 a3 a0), (9, ia (a0.length : Int)), (10, ia 0)] (by kernel_rfl) ?_
  refine EL.done (by kernel_rfl) ?_
  refine EQ.code ?_
  refine EW.bl 0 (by kernel_rfl) ?_
  refine EW.lp (fun n a w => ∃ a9 : ByteArray, ∃ a1 : Int, Sat 28 [(3, pt a4 0), (8, sv a5 a3 a0), (9, ia (a0.length : Int)), (10, ia a1)] a ∧ St B w (Ass.bld 58 5 a4 a9 :: os) (Ro.sl (Kd.slice kS27) a5 a3 a0 :: rs) ∧ image_Text.l0 K a0 b3 n a9 a1 = some b8) K (by kernel_rfl) ?_ (fun n a w hI => ?_)
  ·refine EQ.keep [3, 8, 9, 10] [(3, pt a4 0), (8, sv a5 a3 a0), (9, ia (a0.length : Int)), (10, ia 0)] (by kernel_rfl) ?_
   exact fun a ha => ⟨(⟨#[]⟩ : ByteArray), 0, ha, (hS.re [0] [] rfl (sub_cons 0 rfl (sub_tail (sub_self)))), H⟩
  obtain ⟨a9, a1, ha, hS, H⟩ := hI
  obtain _ | n := n
  ·simp [image_Text.l0] at H
  rw [image_Text.l0.eq_2] at H
  refine EW.at ?_ a ha
  clear ha a
  refine EW.sq (by kernel_rfl) ?_
  refine EW.rg (by kernel_rfl) ?_
  refine EL.quick 1 [3, 8, 9, 10, 11] [(3, pt a4 0), (8, sv a5 a3 a0), (9, ia (a0.length : Int)), (10, ia a1), (11, .bool (decide (a1 < (a0.length : Int))))] (by kernel_rfl) ?_
  refine EL.done (by kernel_rfl) ?_
  refine EQ.code ?_
  refine EW.sq (by kernel_rfl) ?_
  refine EW.cdP (a1 < (a0.length : Int)) (by kernel_rfl) (by kernel_rfl) (fun b5 => ?_) (fun b5 => ?_)
  ·rw [if_pos b5] at H
   refine EW.skip (by kernel_rfl) ?_
   refine EQ.code ?_
   obtain ⟨b4, d1, H⟩ := lt_out H
   refine EW.ct (fun a w => ∃ b9 : ByteArray, Sat 28 [(3, pt a4 0), (8, sv a5 a3 a0), (9, ia (a0.length : Int)), (10, ia a1)] a ∧ St B w (Ass.bld 58 5 a4 b9 :: os) (Ro.sl (Kd.slice kS27) a5 a3 a0 :: rs) ∧ b4 b9 = some b8) (by kernel_rfl) ?_ (fun a w hI => ?_)
   ·refine EW.bl 1 (by kernel_rfl) ?_
    refine EW.sq (by kernel_rfl) ?_
    refine EW.rg (by kernel_rfl) ?_
    obtain ⟨c1, H⟩ := ite_in H
    obtain ⟨a6, rfl⟩ := St.rd_some hS (Rd.ro 0 rfl) c1 b5
    refine EL.of (EO.Y (YO.idx 24 1 a6 a0.length a3 .i64 a1 12 (by kernel_rfl) (by kernel_rfl) (by kernel_rfl) (by kernel_rfl) c1 b5) ?_)
    refine EL.of (EO.loadSl2 h0b hS kS27 a6 a3 a0 (Rd.ro 0 rfl) a1 c1 b5 25 13 (by kernel_rfl) (by kernel_rfl) (by kernel_rfl) (by kernel_rfl) ?_)
    intro b2 a7 h0b hS
    refine EL.quick 1 [3, 5, 8, 9, 10] [(3, pt a4 0), (5, sv b2 a7 (a0.getD a1.toNat [])), (8, sv (some a6) a3 a0), (9, ia (a0.length : Int)), (10, ia a1)] (by kernel_rfl) ?_
    refine EL.done (by kernel_rfl) ?_
    refine EQ.code ?_
    refine EW.sq (by kernel_rfl) ?_
    refine EW.rg (by kernel_rfl) ?_
    have hS : St B w (Ass.bld 58 5 a4 a9 :: os) (Ro.sl kS27 b2 a7 (a0.getD a1.toNat []) :: Ro.sl (Kd.slice kS27) (some a6) a3 a0 :: rs) := hS.re [0] [] rfl sub_self
    obtain ⟨c6, H⟩ := ite_in H
    obtain ⟨c3, d2, H⟩ := lt_out H
    have hq := Door.Builder_WriteString h0b hS (noRow_nil hos) d2 c6
    refine EL.of (EO.callD 24 [.pointer (some ⟨a4, 0, none⟩), .string (⟨#[102, 117, 110, 99, 10]⟩ : ByteArray)] _ 14 (by kernel_rfl) (by kernel_rfl) (by kernel_rfl) hq ?_)
    rintro v w ⟨rfl, hS⟩
    refine EL.done (by kernel_rfl) ?_
    refine EQ.code ?_
    refine EW.sq (by kernel_rfl) ?_
    refine EW.rg (by kernel_rfl) ?_
    refine EL.quick 3 [3, 8, 9, 10, 15, 16, 17] [(3, pt a4 0), (8, sv (some a6) a3 a0), (9, ia (a0.length : Int)), (10, ia a1), (15, sv b2 a7 (a0.getD a1.toNat [])), (16, ia ((a0.getD a1.toNat []).length : Int)), (17, ia 0)] (by kernel_rfl) ?_
    refine EL.done (by kernel_rfl) ?_
    refine EQ.code ?_
    refine EW.bl 2 (by kernel_rfl) ?_
    refine EW.lp (fun n a w => ∃ a8 : ByteArray, ∃ a2 : Int, Sat 28 [(3, pt a4 0), (8, sv (some a6) a3 a0), (9, ia (a0.length : Int)), (10, ia a1), (15, sv b2 a7 (a0.getD a1.toNat [])), (16, ia ((a0.getD a1.toNat []).length : Int)), (17, ia a2)] a ∧ St B w (Ass.bld 58 5 a4 a8 :: os) (Ro.sl kS27 b2 a7 (a0.getD a1.toNat []) :: Ro.sl (Kd.slice kS27) (some a6) a3 a0 :: rs) ∧ image_Text.l1 K a0 a1 b4 n a8 a2 = some b8) K (by kernel_rfl) ?_ (fun n a w hI => ?_)
    ·refine EQ.keep [3, 8, 9, 10, 15, 16, 17] [(3, pt a4 0), (8, sv (some a6) a3 a0), (9, ia (a0.length : Int)), (10, ia a1), (15, sv b2 a7 (a0.getD a1.toNat [])), (16, ia ((a0.getD a1.toNat []).length : Int)), (17, ia 0)] (by kernel_rfl) ?_
     exact fun a ha => ⟨c3, 0, ha, (hS.re [0] [] rfl (sub_cons 0 rfl (sub_cons 1 rfl (sub_tail (sub_tail (sub_self)))))), H⟩
    obtain ⟨a8, a2, ha, hS, H⟩ := hI
    obtain _ | n := n
    ·simp [image_Text.l1] at H
    rw [image_Text.l1.eq_2] at H
    refine EW.at ?_ a ha
    clear ha a
    refine EW.sq (by kernel_rfl) ?_
    refine EW.rg (by kernel_rfl) ?_
    refine EL.quick 1 [3, 8, 9, 10, 15, 16, 17, 18] [(3, pt a4 0), (8, sv (some a6) a3 a0), (9, ia (a0.length : Int)), (10, ia a1), (15, sv b2 a7 (a0.getD a1.toNat [])), (16, ia ((a0.getD a1.toNat []).length : Int)), (17, ia a2), (18, .bool (decide (a2 < ((a0.getD a1.toNat []).length : Int))))] (by kernel_rfl) ?_
    refine EL.done (by kernel_rfl) ?_
    refine EQ.code ?_
    refine EW.sq (by kernel_rfl) ?_
    refine EW.cdP (a2 < ((a0.getD a1.toNat []).length : Int)) (by kernel_rfl) (by kernel_rfl) (fun b6 => ?_) (fun b6 => ?_)
    ·rw [if_pos b6] at H
     refine EW.skip (by kernel_rfl) ?_
     refine EQ.code ?_
     refine EW.sq (by kernel_rfl) ?_
     refine EW.bl 3 (by kernel_rfl) ?_
     refine EW.sq (by kernel_rfl) ?_
     refine EW.rg (by kernel_rfl) ?_
     obtain ⟨c2, H⟩ := ite_in H
     obtain ⟨c0, rfl⟩ := St.rd_some hS (Rd.ro 0 rfl) c2 b6
     refine EL.of (EO.Y (YO.idx 25 2 c0 (a0.getD a1.toNat []).length a7 .i64 a2 19 (by kernel_rfl) (by kernel_rfl) (by kernel_rfl) (by kernel_rfl) c2 b6) ?_)
     refine EL.of (EO.Y (YO.loadEl hS kS27 c0 a7 (a0.getD a1.toNat []) (Rd.ro 0 rfl) zS27 encS27 encS27_of a2 c2 b6 27 2 0 2 rfl (ag [ia (((a0.getD a1.toNat []).getD a2.toNat zS27).f0), ib (((a0.getD a1.toNat []).getD a2.toNat zS27).f1)]) 20 (by kernel_rfl) (by kernel_rfl) (by kernel_rfl) (by kernel_rfl)) ?_)
     refine EL.of (EO.alloc hS 27 (ag [ia 0, ib 0]) [ia 0, ib 0] 7 (by kernel_rfl) (by kernel_rfl) (by kernel_rfl) (by kernel_rfl) (by first | rfl | kernel_rfl) ?_)
     intro c5 w hS
     refine EL.of (EO.storeBox (os' := Ass.box 27 c5 [ia (((a0.getD a1.toNat []).getD a2.toNat zS27).f0), ib (((a0.getD a1.toNat []).getD a2.toNat zS27).f1)] :: Ass.bld 58 5 a4 a8 :: os) hS 0 rfl 27 0 (ag [ia (((a0.getD a1.toNat []).getD a2.toNat zS27).f0), ib (((a0.getD a1.toNat []).getD a2.toNat zS27).f1)]) [ia (((a0.getD a1.toNat []).getD a2.toNat zS27).f0), ib (((a0.getD a1.toNat []).getD a2.toNat zS27).f1)] (by kernel_rfl) (by kernel_rfl) (by kernel_rfl) (by kernel_rfl) (by kernel_rfl) (by kernel_rfl) rfl rfl ?_)
     intro w hS
     refine EL.done (by kernel_rfl) ?_
     refine EQ.code ?_
     refine EW.rg (by kernel_rfl) ?_
     refine EL.of (EO.Y (YO.loadBox hS 0 rfl 27 0 2 (ag [ia (((a0.getD a1.toNat []).getD a2.toNat zS27).f0), ib (((a0.getD a1.toNat []).getD a2.toNat zS27).f1)]) 21 (by kernel_rfl) (by kernel_rfl) (by kernel_rfl) (by kernel_rfl)) ?_)
     obtain ⟨b7, c9, H⟩ := b1_out H
     have hq := instr_Text.calls c9 hS gB
     refine EL.of (EO.callD 25 [ag [ia (((a0.getD a1.toNat []).getD a2.toNat zS27).f0), ib (((a0.getD a1.toNat []).getD a2.toNat zS27).f1)]] _ 22 (by kernel_rfl) (by kernel_rfl) (by kernel_rfl) hq ?_)
     rintro v w ⟨rfl, hS⟩
     obtain ⟨c7, H⟩ := ite_in H
     refine EL.of (EO.Y (YO.strCat b7 (⟨#[10]⟩ : ByteArray) 23 (by kernel_rfl) (by kernel_rfl) (by kernel_rfl) c7) ?_)
     have hS : St B w (Ass.bld 58 5 a4 a8 :: Ass.box 27 c5 [ia (((a0.getD a1.toNat []).getD a2.toNat zS27).f0), ib (((a0.getD a1.toNat []).getD a2.toNat zS27).f1)] :: os) (Ro.sl kS27 (some c0) a7 (a0.getD a1.toNat []) :: Ro.sl (Kd.slice kS27) (some a6) a3 a0 :: rs) := hS.re [0, 1] [] rfl sub_self
     obtain ⟨c8, H⟩ := ite_in H
     obtain ⟨c4, d3, H⟩ := lt_out H
     have hq := Door.Builder_WriteString h0b hS (noRow_cons (by decide) (noRow_nil hos)) d3 c8
     refine EL.of (EO.callD 24 [.pointer (some ⟨a4, 0, none⟩), .string (b7 ++ (⟨#[10]⟩ : ByteArray))] _ 24 (by kernel_rfl) (by kernel_rfl) (by kernel_rfl) hq ?_)
     rintro v w ⟨rfl, hS⟩
     refine EL.done (by kernel_rfl) ?_
     refine EQ.pop ?_
     refine EQ.code ?_
     refine EW.rg (by kernel_rfl) ?_
     refine EL.quick 2 [3, 8, 9, 10, 15, 16, 17] [(3, pt a4 0), (8, sv (some a6) a3 a0), (9, ia (a0.length : Int)), (10, ia a1), (15, sv (some c0) a7 (a0.getD a1.toNat [])), (16, ia ((a0.getD a1.toNat []).length : Int)), (17, ia (IntKind.i64.wrap (a2 + 1)))] (by kernel_rfl) ?_
     refine EL.done (by kernel_rfl) ?_
     refine EQ.to ?_
     refine EQ.keep [3, 8, 9, 10, 15, 16, 17] [(3, pt a4 0), (8, sv (some a6) a3 a0), (9, ia (a0.length : Int)), (10, ia a1), (15, sv (some c0) a7 (a0.getD a1.toNat [])), (16, ia ((a0.getD a1.toNat []).length : Int)), (17, ia (IntKind.i64.wrap (a2 + 1)))] (by kernel_rfl) ?_
     exact fun a ha => ⟨n, Nat.lt_succ_self n, c4, IntKind.i64.wrap (a2 + 1), ha, (hS.re [0] [1] rfl (sub_cons 0 rfl (sub_cons 1 rfl (sub_tail (sub_tail (sub_self)))))), H⟩
    rw [if_neg b6] at H
    refine EW.exit (id := 2) (by kernel_rfl) ?_
    refine EQ.exitCode ?_
    refine EQ.exitTo ?_
    refine EQ.exitHere ?_
    refine EQ.pop ?_
    refine EQ.to ?_
    refine EQ.keep [3, 8, 9, 10] [(3, pt a4 0), (8, sv (some a6) a3 a0), (9, ia (a0.length : Int)), (10, ia a1)] (by kernel_rfl) ?_
    exact fun a ha => ⟨a8, ha, (hS.re [0] [] rfl (sub_cons 1 rfl (sub_tail (sub_tail (sub_self))))), H⟩
   obtain ⟨b9, ha, hS, H⟩ := hI
   rw [d1] at H
   (try dsimp only at H)
   refine EW.at ?_ a ha
   clear ha a
   refine EW.rg (by kernel_rfl) ?_
   refine EL.quick 2 [3, 8, 9, 10] [(3, pt a4 0), (8, sv a5 a3 a0), (9, ia (a0.length : Int)), (10, ia (IntKind.i64.wrap (a1 + 1)))] (by kernel_rfl) ?_
   refine EL.done (by kernel_rfl) ?_
   refine EQ.to ?_
   refine EQ.keep [3, 8, 9, 10] [(3, pt a4 0), (8, sv a5 a3 a0), (9, ia (a0.length : Int)), (10, ia (IntKind.i64.wrap (a1 + 1)))] (by kernel_rfl) ?_
   exact fun a ha => ⟨n, Nat.lt_succ_self n, b9, IntKind.i64.wrap (a1 + 1), ha, (hS.re [0] [] rfl (sub_cons 0 rfl (sub_tail (sub_self)))), H⟩
  rw [if_neg b5] at H
  refine EW.exit (id := 0) (by kernel_rfl) ?_
  refine EQ.exitCode ?_
  refine EQ.exitTo ?_
  refine EQ.exitHere ?_
  refine EQ.to ?_
  refine EQ.keep [3] [(3, pt a4 0)] (by kernel_rfl) ?_
  exact fun a ha => ⟨a9, ha, (hS.re [0] [] rfl (sub_cons 0 rfl (sub_tail (sub_self)))), H⟩
 obtain ⟨b0, ha, hS, H⟩ := hI
 rw [d0] at H
 (try dsimp only at H)
 refine EW.at ?_ a ha
 clear ha a
 refine EW.sq (by kernel_rfl) ?_
 refine EW.rg (by kernel_rfl) ?_
 have hS : St B w (Ass.bld 58 5 a4 b0 :: os) (Ro.sl (Kd.slice kS27) a5 a3 a0 :: rs) := hS.re [0] [] rfl sub_self
 have hq := Door.Builder_String h0b hS (noRow_nil hos)
 refine EL.of (EO.callD 26 [.pointer (some ⟨a4, 0, none⟩)] _ 27 (by kernel_rfl) (by kernel_rfl) (by kernel_rfl) hq ?_)
 rintro v w ⟨rfl, hS⟩
 refine EL.quick 1 [2] [(2, .string b0)] (by kernel_rfl) ?_
 refine EL.done (by kernel_rfl) ?_
 refine EQ.code ?_
 refine EW.ret (by kernel_rfl) ?_
 obtain rfl := Option.some.inj H
 exact EQ.leave (.string b0) (by kernel_rfl) ⟨_, rfl, rfl, (hS.re [] [] rfl (sub_self))⟩

/-! ### confidant/confidantlaw7.known: function 5 -/
def confidantlaw7_known.f (K : Nat)  : Option Bool := b3 (image_Parse.f K (⟨#[102, 117, 110, 99, 10, 112, 117, 115, 104, 32, 49, 10, 114, 101, 116, 10, 10, 102, 117, 110, 99, 10, 102, 97, 105, 108, 32, 51]⟩ : ByteArray)) fun (a0 : List (List S27)) (b5 : Int) (b0 : Int) => (b2 (image_Put.f K a0) fun (b6 : List Int) (a9 : Int) => (b2 (pack_New.f K b6) fun (b9 : List Int) (d6 : Int) => (b4 (image_Take.f K b9 d6) fun (c1 : List Int) (d7 : Int) (a5 : List (List S27)) (a8 : Bool) => (b3 (image_Parse.f K (⟨#[10, 114, 101, 116]⟩ : ByteArray)) fun (d8 : List (List S27)) (a4 : Int) (a3 : Int) => (if b5 = 0 then (if b0 = 0 then (if a9 = 0 then (if a8 = true then (b1 (image_Same.f K a5 a0) fun (c0 : Bool) => (if c0 = true then (if (a0.length : Int) = 2 then (if a4 = 1 then (if a3 = 24 then (b1 (image_Text.f K a0) fun (d5 : ByteArray) => (some (d5.toList == (⟨#[102, 117, 110, 99, 10, 112, 117, 115, 104, 32, 49, 10, 114, 101, 116, 10, 102, 117, 110, 99, 10, 102, 97, 105, 108, 32, 51, 10]⟩ : ByteArray).toList))) else (some false)) else (some false)) else (some false)) else (some false))) else (some false)) else (some false)) else (some false)) else (some false))))))
set_option maxRecDepth 100000 in
theorem confidantlaw7_known.calls {K : Nat} {e1 : Bool} {B w : World} {os : List Ass} {rs : List Ro} (H : confidantlaw7_known.f K = some e1) (hS : St B w (os) (rs)) (gB : Glob B) :
  Calls Tryd.prog 5 [].toArray w (fun en w' => ∃ v, en = .returned v ∧ v = .bool (e1) ∧ St B w' (os) (rs)) := by
 unfold confidantlaw7_known.f at H
 refine calls_of_EW (args := []) (c := Cd5) 68 Tryd.func5 (by kernel_rfl) (by kernel_rfl) (by kernel_rfl) ?_
 refine EW.sq (by kernel_rfl) ?_
 refine EW.rg (by kernel_rfl) ?_
 refine EL.quick 1 [] [] (by kernel_rfl) ?_
 refine EL.done (by kernel_rfl) ?_
 refine EQ.code ?_
 refine EW.sq (by kernel_rfl) ?_
 refine EW.rg (by kernel_rfl) ?_
 obtain ⟨a0, b5, b0, e2, H⟩ := b3_out H
 have hq := image_Parse.calls e2 hS gB
 refine EL.of (EO.callD 7 [.string (⟨#[102, 117, 110, 99, 10, 112, 117, 115, 104, 32, 49, 10, 114, 101, 116, 10, 10, 102, 117, 110, 99, 10, 102, 97, 105, 108, 32, 51]⟩ : ByteArray)] _ 12 (by kernel_rfl) (by kernel_rfl) (by kernel_rfl) hq ?_)
 rintro v w ⟨a1, a2, rfl, hS⟩
 refine EL.quick 7 [1, 2, 3] [(1, sv a1 a2 a0), (2, ia b5), (3, ia b0)] (by kernel_rfl) ?_
 refine EL.done (by kernel_rfl) ?_
 refine EQ.code ?_
 refine EW.sq (by kernel_rfl) ?_
 refine EW.rg (by kernel_rfl) ?_
 refine EL.quick 1 [1, 2, 3, 17] [(1, sv a1 a2 a0), (2, ia b5), (3, ia b0), (17, sv a1 a2 a0)] (by kernel_rfl) ?_
 have hS := St.frDeep hS 0 rfl
 have hS : St B _ (os) (Ro.sl (Kd.slice kS27) a1 a2 a0 :: rs) := hS.re [] [] rfl (sub_cons 0 rfl (sub_tail (sub_self)))
 obtain ⟨b6, a9, e3, H⟩ := b2_out H
 have hq := image_Put.calls e3 hS
 refine EL.of (EO.callD 6 [sv a1 a2 a0] _ 18 (by kernel_rfl) (by kernel_rfl) (by kernel_rfl) hq ?_)
 rintro v w ⟨b7, b8, rfl, hS⟩
 refine EL.quick 5 [1, 2, 3, 4, 5] [(1, sv a1 a2 a0), (2, ia b5), (3, ia b0), (4, sv b7 b8 b6), (5, ia a9)] (by kernel_rfl) ?_
 refine EL.done (by kernel_rfl) ?_
 refine EQ.code ?_
 refine EW.sq (by kernel_rfl) ?_
 refine EW.rg (by kernel_rfl) ?_
 refine EL.quick 1 [1, 2, 3, 5, 22] [(1, sv a1 a2 a0), (2, ia b5), (3, ia b0), (5, ia a9), (22, sv b7 b8 b6)] (by kernel_rfl) ?_
 have hS := St.fr hS 0 rfl
 have hS : St B _ (os) (Ro.sl (Kd.int .u8) b7 b8 b6 :: Ro.sl (Kd.slice kS27) a1 a2 a0 :: rs) := hS.re [] [] rfl (sub_cons 0 rfl (sub_tail (sub_self)))
 obtain ⟨b9, d6, e4, H⟩ := b2_out H
 have hq := pack_New.calls e4 hS
 refine EL.of (EO.callD 12 [sv b7 b8 b6] _ 23 (by kernel_rfl) (by kernel_rfl) (by kernel_rfl) hq ?_)
 rintro v w ⟨c6, c2, c4, rfl, hS⟩
 have hS : St B _ (Ass.box 69 c6 [sv c2 c4 b9, ia d6] :: os) (Ro.sl (Kd.int .u8) c2 c4 b9 :: Ro.sl (Kd.int .u8) b7 b8 b6 :: Ro.sl (Kd.slice kS27) a1 a2 a0 :: rs) := hS.re [0] [] rfl (sub_cons 0 rfl (sub_tail (sub_self)))
 obtain ⟨c1, d7, a5, a8, e5, H⟩ := b4_out H
 have hq := image_Take.calls e5 hS
 refine EL.of (EO.callD 11 [pt c6 0] _ 24 (by kernel_rfl) (by kernel_rfl) (by kernel_rfl) hq ?_)
 rintro v w ⟨c3, c5, a6, a7, rfl, hS⟩
 refine EL.quick 5 [1, 2, 3, 5, 6, 7] [(1, sv a1 a2 a0), (2, ia b5), (3, ia b0), (5, ia a9), (6, sv a6 a7 a5), (7, .bool (a8))] (by kernel_rfl) ?_
 refine EL.done (by kernel_rfl) ?_
 refine EQ.code ?_
 refine EW.sq (by kernel_rfl) ?_
 refine EW.rg (by kernel_rfl) ?_
 obtain ⟨d8, a4, a3, e6, H⟩ := b3_out H
 have hq := image_Parse.calls e6 hS gB
 refine EL.of (EO.callD 7 [.string (⟨#[10, 114, 101, 116]⟩ : ByteArray)] _ 28 (by kernel_rfl) (by kernel_rfl) (by kernel_rfl) hq ?_)
 rintro v w ⟨d9, e0, rfl, hS⟩
 refine EL.quick 7 [1, 2, 3, 5, 6, 7, 9, 10] [(1, sv a1 a2 a0), (2, ia b5), (3, ia b0), (5, ia a9), (6, sv a6 a7 a5), (7, .bool (a8)), (9, ia a4), (10, ia a3)] (by kernel_rfl) ?_
 refine EL.done (by kernel_rfl) ?_
 refine EQ.code ?_
 refine EW.sq (by kernel_rfl) ?_
 refine EW.rg (by kernel_rfl) ?_
 refine EL.quick 3 [1, 3, 5, 6, 7, 9, 10, 34] [(1, sv a1 a2 a0), (3, ia b0), (5, ia a9), (6, sv a6 a7 a5), (7, .bool (a8)), (9, ia a4), (10, ia a3), (34, .bool (decide (b5 = 0)))] (by kernel_rfl) ?_
 by_cases c7 : b5 = 0
 ·rw [if_pos c7] at H
  refine EL.keep [1, 3, 5, 6, 7, 9, 10, 34] [(1, sv a1 a2 a0), (3, ia b0), (5, ia a9), (6, sv a6 a7 a5), (7, .bool (a8)), (9, ia a4), (10, ia a3), (34, .bool (decide (b5 = 0)))] (by kernel_rfl) ?_
  refine EL.as' [(1, sv a1 a2 a0), (3, ia b0), (5, ia a9), (6, sv a6 a7 a5), (7, .bool (a8)), (9, ia a4), (10, ia a3), (34, .bool (true))] (by simp only [sv, dec_t c7, Bool.not_true, Bool.not_false]) ?_
  refine EL.quick 4 [1, 5, 6, 7, 9, 10, 38] [(1, sv a1 a2 a0), (5, ia a9), (6, sv a6 a7 a5), (7, .bool (a8)), (9, ia a4), (10, ia a3), (38, .bool (decide (b0 = 0)))] (by kernel_rfl) ?_
  by_cases c8 : b0 = 0
  ·rw [if_pos c8] at H
   refine EL.keep [1, 5, 6, 7, 9, 10, 38] [(1, sv a1 a2 a0), (5, ia a9), (6, sv a6 a7 a5), (7, .bool (a8)), (9, ia a4), (10, ia a3), (38, .bool (decide (b0 = 0)))] (by kernel_rfl) ?_
   refine EL.as' [(1, sv a1 a2 a0), (5, ia a9), (6, sv a6 a7 a5), (7, .bool (a8)), (9, ia a4), (10, ia a3), (38, .bool (true))] (by simp only [sv, dec_t c8, Bool.not_true, Bool.not_false]) ?_
   refine EL.quick 4 [1, 6, 7, 9, 10, 42] [(1, sv a1 a2 a0), (6, sv a6 a7 a5), (7, .bool (a8)), (9, ia a4), (10, ia a3), (42, .bool (decide (a9 = 0)))] (by kernel_rfl) ?_
   by_cases c9 : a9 = 0
   ·rw [if_pos c9] at H
    refine EL.keep [1, 6, 7, 9, 10, 42] [(1, sv a1 a2 a0), (6, sv a6 a7 a5), (7, .bool (a8)), (9, ia a4), (10, ia a3), (42, .bool (decide (a9 = 0)))] (by kernel_rfl) ?_
    refine EL.as' [(1, sv a1 a2 a0), (6, sv a6 a7 a5), (7, .bool (a8)), (9, ia a4), (10, ia a3), (42, .bool (true))] (by simp only [sv, dec_t c9, Bool.not_true, Bool.not_false]) ?_
    refine EL.quick 3 [1, 6, 9, 10, 45] [(1, sv a1 a2 a0), (6, sv a6 a7 a5), (9, ia a4), (10, ia a3), (45, .bool (a8))] (by kernel_rfl) ?_
    by_cases d0 : a8 = true
    ·rw [if_pos d0] at H
     refine EL.keep [1, 6, 9, 10, 45] [(1, sv a1 a2 a0), (6, sv a6 a7 a5), (9, ia a4), (10, ia a3), (45, .bool (a8))] (by kernel_rfl) ?_
     refine EL.as' [(1, sv a1 a2 a0), (6, sv a6 a7 a5), (9, ia a4), (10, ia a3), (45, .bool (true))] (by simp only [sv, d0, Bool.not_true, Bool.not_false]) ?_
     refine EL.quick 2 [1, 9, 10, 45, 46, 47] [(1, sv a1 a2 a0), (9, ia a4), (10, ia a3), (45, .bool (true)), (46, sv a6 a7 a5), (47, sv a1 a2 a0)] (by kernel_rfl) ?_
     have hS := St.frDeep hS 2 rfl
     have hS : St B _ (Ass.deep 25 27 kS27 d9 e0 d8 :: Ass.box 69 c6 [sv c3 c5 c1, ia d7] :: os) (Ro.sl (Kd.slice kS27) a6 a7 a5 :: Ro.sl (Kd.slice kS27) a1 a2 a0 :: Ro.sl (Kd.int .u8) c3 c5 c1 :: Ro.sl (Kd.int .u8) c2 c4 b9 :: Ro.sl (Kd.int .u8) b7 b8 b6 :: rs) := hS.re [] [] rfl (sub_cons 0 rfl (sub_cons 4 rfl (sub_cons 1 rfl (sub_cons 2 rfl (sub_cons 3 rfl (sub_tail (sub_tail (sub_tail (sub_tail (sub_tail (sub_self)))))))))))
     obtain ⟨c0, e7, H⟩ := b1_out H
     have hq := image_Same.calls e7 hS
     refine EL.of (EO.callD 9 [sv a6 a7 a5, sv a1 a2 a0] _ 48 (by kernel_rfl) (by kernel_rfl) (by kernel_rfl) hq ?_)
     rintro v w ⟨rfl, hS⟩
     refine EL.quick 2 [1, 9, 10, 50] [(1, sv a1 a2 a0), (9, ia a4), (10, ia a3), (50, .bool (c0))] (by kernel_rfl) ?_
     by_cases d1 : c0 = true
     ·rw [if_pos d1] at H
      refine EL.keep [1, 9, 10, 50] [(1, sv a1 a2 a0), (9, ia a4), (10, ia a3), (50, .bool (c0))] (by kernel_rfl) ?_
      refine EL.as' [(1, sv a1 a2 a0), (9, ia a4), (10, ia a3), (50, .bool (true))] (by simp only [sv, d1, Bool.not_true, Bool.not_false]) ?_
      refine EL.quick 5 [1, 9, 10, 55] [(1, sv a1 a2 a0), (9, ia a4), (10, ia a3), (55, .bool (decide ((a0.length : Int) = 2)))] (by kernel_rfl) ?_
      by_cases d2 : (a0.length : Int) = 2
      ·rw [if_pos d2] at H
       refine EL.keep [1, 9, 10, 55] [(1, sv a1 a2 a0), (9, ia a4), (10, ia a3), (55, .bool (decide ((a0.length : Int) = 2)))] (by kernel_rfl) ?_
       refine EL.as' [(1, sv a1 a2 a0), (9, ia a4), (10, ia a3), (55, .bool (true))] (by simp only [sv, dec_t d2, Bool.not_true, Bool.not_false]) ?_
       refine EL.quick 4 [1, 10, 59] [(1, sv a1 a2 a0), (10, ia a3), (59, .bool (decide (a4 = 1)))] (by kernel_rfl) ?_
       by_cases d3 : a4 = 1
       ·rw [if_pos d3] at H
        refine EL.keep [1, 10, 59] [(1, sv a1 a2 a0), (10, ia a3), (59, .bool (decide (a4 = 1)))] (by kernel_rfl) ?_
        refine EL.as' [(1, sv a1 a2 a0), (10, ia a3), (59, .bool (true))] (by simp only [sv, dec_t d3, Bool.not_true, Bool.not_false]) ?_
        refine EL.quick 4 [1, 63] [(1, sv a1 a2 a0), (63, .bool (decide (a3 = 24)))] (by kernel_rfl) ?_
        by_cases d4 : a3 = 24
        ·rw [if_pos d4] at H
         refine EL.keep [1, 63] [(1, sv a1 a2 a0), (63, .bool (decide (a3 = 24)))] (by kernel_rfl) ?_
         refine EL.as' [(1, sv a1 a2 a0), (63, .bool (true))] (by simp only [sv, dec_t d4, Bool.not_true, Bool.not_false]) ?_
         refine EL.quick 1 [63, 64] [(63, .bool (true)), (64, sv a1 a2 a0)] (by kernel_rfl) ?_
         have hS : St B _ (Ass.deep 25 27 kS27 d9 e0 d8 :: Ass.box 69 c6 [sv c3 c5 c1, ia d7] :: os) (Ro.sl (Kd.slice kS27) a1 a2 a0 :: Ro.sl (Kd.slice kS27) a6 a7 a5 :: Ro.sl (Kd.int .u8) c3 c5 c1 :: Ro.sl (Kd.int .u8) c2 c4 b9 :: Ro.sl (Kd.int .u8) b7 b8 b6 :: rs) := hS.re [] [] rfl (sub_cons 1 rfl (sub_cons 0 rfl (sub_tail (sub_tail (sub_self)))))
         obtain ⟨d5, e8, H⟩ := b1_out H
         have hq := image_Text.calls e8 hS gB
         refine EL.of (EO.callD 10 [sv a1 a2 a0] _ 65 (by kernel_rfl) (by kernel_rfl) (by kernel_rfl) hq ?_)
         rintro v w ⟨rfl, hS⟩
         refine EL.quick 3 [0] [(0, .bool ((d5.toList == (⟨#[102, 117, 110, 99, 10, 112, 117, 115, 104, 32, 49, 10, 114, 101, 116, 10, 102, 117, 110, 99, 10, 102, 97, 105, 108, 32, 51, 10]⟩ : ByteArray).toList)))] (by kernel_rfl) ?_
         refine EL.done (by kernel_rfl) ?_
         refine EQ.code ?_
         refine EW.ret (by kernel_rfl) ?_
         obtain rfl := Option.some.inj H
         exact EQ.leave (.bool ((d5.toList == (⟨#[102, 117, 110, 99, 10, 112, 117, 115, 104, 32, 49, 10, 114, 101, 116, 10, 102, 117, 110, 99, 10, 102, 97, 105, 108, 32, 51, 10]⟩ : ByteArray).toList))) (by kernel_rfl) ⟨_, rfl, rfl, (hS.re [] [0, 0] rfl (sub_tail (sub_tail (sub_tail (sub_tail (sub_tail (sub_self)))))))⟩
        rw [if_neg d4] at H
        refine EL.keep [1, 63] [(1, sv a1 a2 a0), (63, .bool (decide (a3 = 24)))] (by kernel_rfl) ?_
        refine EL.as' [(1, sv a1 a2 a0), (63, .bool (false))] (by simp only [sv, dec_f d4, Bool.not_true, Bool.not_false]) ?_
        refine EL.quick 5 [0] [(0, .bool (false))] (by kernel_rfl) ?_
        refine EL.done (by kernel_rfl) ?_
        refine EQ.code ?_
        refine EW.ret (by kernel_rfl) ?_
        obtain rfl := Option.some.inj H
        exact EQ.leave (.bool (false)) (by kernel_rfl) ⟨_, rfl, rfl, (hS.re [] [0, 0] rfl (sub_tail (sub_tail (sub_tail (sub_tail (sub_tail (sub_self)))))))⟩
       rw [if_neg d3] at H
       refine EL.keep [1, 10, 59] [(1, sv a1 a2 a0), (10, ia a3), (59, .bool (decide (a4 = 1)))] (by kernel_rfl) ?_
       refine EL.as' [(1, sv a1 a2 a0), (10, ia a3), (59, .bool (false))] (by simp only [sv, dec_f d3, Bool.not_true, Bool.not_false]) ?_
       refine EL.quick 9 [0] [(0, .bool (false))] (by kernel_rfl) ?_
       refine EL.done (by kernel_rfl) ?_
       refine EQ.code ?_
       refine EW.ret (by kernel_rfl) ?_
       obtain rfl := Option.some.inj H
       exact EQ.leave (.bool (false)) (by kernel_rfl) ⟨_, rfl, rfl, (hS.re [] [0, 0] rfl (sub_tail (sub_tail (sub_tail (sub_tail (sub_tail (sub_self)))))))⟩
      rw [if_neg d2] at H
      refine EL.keep [1, 9, 10, 55] [(1, sv a1 a2 a0), (9, ia a4), (10, ia a3), (55, .bool (decide ((a0.length : Int) = 2)))] (by kernel_rfl) ?_
      refine EL.as' [(1, sv a1 a2 a0), (9, ia a4), (10, ia a3), (55, .bool (false))] (by simp only [sv, dec_f d2, Bool.not_true, Bool.not_false]) ?_
      refine EL.quick 13 [0] [(0, .bool (false))] (by kernel_rfl) ?_
      refine EL.done (by kernel_rfl) ?_
      refine EQ.code ?_
      refine EW.ret (by kernel_rfl) ?_
      obtain rfl := Option.some.inj H
      exact EQ.leave (.bool (false)) (by kernel_rfl) ⟨_, rfl, rfl, (hS.re [] [0, 0] rfl (sub_tail (sub_tail (sub_tail (sub_tail (sub_tail (sub_self)))))))⟩
     rw [if_neg d1] at H
     refine EL.keep [1, 9, 10, 50] [(1, sv a1 a2 a0), (9, ia a4), (10, ia a3), (50, .bool (c0))] (by kernel_rfl) ?_
     refine EL.as' [(1, sv a1 a2 a0), (9, ia a4), (10, ia a3), (50, .bool (false))] (by simp only [sv, (Bool.eq_false_iff.2 d1), Bool.not_true, Bool.not_false]) ?_
     refine EL.quick 18 [0] [(0, .bool (false))] (by kernel_rfl) ?_
     refine EL.done (by kernel_rfl) ?_
     refine EQ.code ?_
     refine EW.ret (by kernel_rfl) ?_
     obtain rfl := Option.some.inj H
     exact EQ.leave (.bool (false)) (by kernel_rfl) ⟨_, rfl, rfl, (hS.re [] [0, 0] rfl (sub_tail (sub_tail (sub_tail (sub_tail (sub_tail (sub_self)))))))⟩
    rw [if_neg d0] at H
    refine EL.keep [1, 6, 9, 10, 45] [(1, sv a1 a2 a0), (6, sv a6 a7 a5), (9, ia a4), (10, ia a3), (45, .bool (a8))] (by kernel_rfl) ?_
    refine EL.as' [(1, sv a1 a2 a0), (6, sv a6 a7 a5), (9, ia a4), (10, ia a3), (45, .bool (false))] (by simp only [sv, (Bool.eq_false_iff.2 d0), Bool.not_true, Bool.not_false]) ?_
    refine EL.quick 23 [0] [(0, .bool (false))] (by kernel_rfl) ?_
    refine EL.done (by kernel_rfl) ?_
    refine EQ.code ?_
    refine EW.ret (by kernel_rfl) ?_
    obtain rfl := Option.some.inj H
    exact EQ.leave (.bool (false)) (by kernel_rfl) ⟨_, rfl, rfl, (hS.re [] [0, 0, 0] rfl (sub_tail (sub_tail (sub_tail (sub_tail (sub_self))))))⟩
   rw [if_neg c9] at H
   refine EL.keep [1, 6, 7, 9, 10, 42] [(1, sv a1 a2 a0), (6, sv a6 a7 a5), (7, .bool (a8)), (9, ia a4), (10, ia a3), (42, .bool (decide (a9 = 0)))] (by kernel_rfl) ?_
   refine EL.as' [(1, sv a1 a2 a0), (6, sv a6 a7 a5), (7, .bool (a8)), (9, ia a4), (10, ia a3), (42, .bool (false))] (by simp only [sv, dec_f c9, Bool.not_true, Bool.not_false]) ?_
   refine EL.quick 26 [0] [(0, .bool (false))] (by kernel_rfl) ?_
   refine EL.done (by kernel_rfl) ?_
   refine EQ.code ?_
   refine EW.ret (by kernel_rfl) ?_
   obtain rfl := Option.some.inj H
   exact EQ.leave (.bool (false)) (by kernel_rfl) ⟨_, rfl, rfl, (hS.re [] [0, 0, 0] rfl (sub_tail (sub_tail (sub_tail (sub_tail (sub_self))))))⟩
  rw [if_neg c8] at H
  refine EL.keep [1, 5, 6, 7, 9, 10, 38] [(1, sv a1 a2 a0), (5, ia a9), (6, sv a6 a7 a5), (7, .bool (a8)), (9, ia a4), (10, ia a3), (38, .bool (decide (b0 = 0)))] (by kernel_rfl) ?_
  refine EL.as' [(1, sv a1 a2 a0), (5, ia a9), (6, sv a6 a7 a5), (7, .bool (a8)), (9, ia a4), (10, ia a3), (38, .bool (false))] (by simp only [sv, dec_f c8, Bool.not_true, Bool.not_false]) ?_
  refine EL.quick 30 [0] [(0, .bool (false))] (by kernel_rfl) ?_
  refine EL.done (by kernel_rfl) ?_
  refine EQ.code ?_
  refine EW.ret (by kernel_rfl) ?_
  obtain rfl := Option.some.inj H
  exact EQ.leave (.bool (false)) (by kernel_rfl) ⟨_, rfl, rfl, (hS.re [] [0, 0, 0] rfl (sub_tail (sub_tail (sub_tail (sub_tail (sub_self))))))⟩
 rw [if_neg c7] at H
 refine EL.keep [1, 3, 5, 6, 7, 9, 10, 34] [(1, sv a1 a2 a0), (3, ia b0), (5, ia a9), (6, sv a6 a7 a5), (7, .bool (a8)), (9, ia a4), (10, ia a3), (34, .bool (decide (b5 = 0)))] (by kernel_rfl) ?_
 refine EL.as' [(1, sv a1 a2 a0), (3, ia b0), (5, ia a9), (6, sv a6 a7 a5), (7, .bool (a8)), (9, ia a4), (10, ia a3), (34, .bool (false))] (by simp only [sv, dec_f c7, Bool.not_true, Bool.not_false]) ?_
 refine EL.quick 34 [0] [(0, .bool (false))] (by kernel_rfl) ?_
 refine EL.done (by kernel_rfl) ?_
 refine EQ.code ?_
 refine EW.ret (by kernel_rfl) ?_
 obtain rfl := Option.some.inj H
 exact EQ.leave (.bool (false)) (by kernel_rfl) ⟨_, rfl, rfl, (hS.re [] [0, 0, 0] rfl (sub_tail (sub_tail (sub_tail (sub_tail (sub_self))))))⟩

/-! ### confidant/confidantseat.in: function 20 -/
def confidantseat_in.f (K : Nat) (a0 : Int) (a1 : Int) : Option (Int × Int) := some (a0, IntKind.i32.wrap a1)
set_option maxRecDepth 100000 in
theorem confidantseat_in.calls {K : Nat} {a0 : Int} {a1 : Int} {a3 : Int} {a4 : Int} {B w : World} {os : List Ass} {rs : List Ro} (H : confidantseat_in.f K a0 a1 = some (a3, a4)) (hS : St B w (os) (rs)) :
  Calls Tryd.prog 20 [ia a0, ia a1].toArray w (fun en w' => ∃ v, en = .returned v ∧ v = ag [ia a3, ib a4] ∧ St B w' (os) (rs)) := by
 unfold confidantseat_in.f at H
 refine calls_of_EW (args := [ia a0, ia a1]) (c := Cd20) 9 Tryd.func20 (by kernel_rfl) (by kernel_rfl) (by kernel_rfl) ?_
 refine EW.sq (by kernel_rfl) ?_
 refine EW.rg (by kernel_rfl) ?_
 refine EL.of (EO.alloc hS 27 (ag [ia 0, ib 0]) [ia 0, ib 0] 4 (by kernel_rfl) (by kernel_rfl) (by kernel_rfl) (by kernel_rfl) (by first | rfl | kernel_rfl) ?_)
 intro a2 w hS
 refine EL.done (by kernel_rfl) ?_
 refine EQ.code ?_
 refine EW.sq (by kernel_rfl) ?_
 refine EW.rg (by kernel_rfl) ?_
 refine EL.quick 4 [4, 8] [(4, pt a2 0), (8, ag [ia a0, ib (IntKind.i32.wrap a1)])] (by kernel_rfl) ?_
 refine EL.of (EO.storeBox (os' := Ass.box 27 a2 [ia a0, ib (IntKind.i32.wrap a1)] :: os) hS 0 rfl 27 0 (ag [ia a0, ib (IntKind.i32.wrap a1)]) [ia a0, ib (IntKind.i32.wrap a1)] (by kernel_rfl) (by kernel_rfl) (by kernel_rfl) (by kernel_rfl) (by kernel_rfl) (by kernel_rfl) rfl rfl ?_)
 intro w hS
 refine EL.done (by kernel_rfl) ?_
 refine EQ.code ?_
 refine EW.ret (by kernel_rfl) ?_
 simp only [Option.some.injEq, Prod.mk.injEq] at H
 obtain ⟨rfl, rfl⟩ := H
 exact EQ.leaveC hS 0 rfl 4 27 0 2 (ag [ia a0, ib (IntKind.i32.wrap a1)]) (by kernel_rfl) (by kernel_rfl) (by kernel_rfl) ⟨_, rfl, rfl, (hS.re [] [0] rfl (sub_self))⟩

/-! ### confidant/confidantseat.piece: function 19 -/
def confidantseat_piece.f (K : Nat) (a2 : Int) (a0 : Int) (a1 : Int) (a4 : Int) (b6 : Int) (a3 : Int) (b0 : Bool) : Option (List S27) := if a4 = 0 then none else (if b6 = 0 then none else (if (Int.tmod a2 16) = 0 then (b2 (confidantseat_in.f K 1 (IntKind.i64.wrap a0)) fun (b5 : Int) (b1 : Int) => (b2 (confidantseat_in.f K 1 (IntKind.i64.wrap (Int.tmod a1 3))) fun (b3 : Int) (a8 : Int) => (lt ([4, 5, 6, 7, 8, 9] : List Int) fun b4 => (if 0 ≤ (Int.tmod a0 6) then (if (Int.tmod a0 6) < (b4.length : Int) then (b2 (confidantseat_in.f K (b4.getD (Int.tmod a0 6).toNat 0) 0) fun (a9 : Int) (a6 : Int) => (b2 (confidantseat_in.f K 13 (IntKind.i64.wrap (Int.tmod a1 4))) fun (a7 : Int) (a5 : Int) => (lt ([(⟨b5, b1⟩ : S27), (⟨b3, a8⟩ : S27), (⟨a9, a6⟩ : S27), (⟨a7, a5⟩ : S27)] : List S27) fun b7 => (some b7)))) else none) else none)))) else (if (Int.tmod a2 16) = 1 then (b2 (confidantseat_in.f K 1 (Int.tmod (IntKind.i64.wrap a0) a4)) fun (d0 : Int) (c1 : Int) => (b2 (confidantseat_in.f K 12 (IntKind.i64.wrap (Int.tmod a1 4))) fun (d1 : Int) (c2 : Int) => (b2 (confidantseat_in.f K 20 (Int.tmod (IntKind.i64.wrap a1) b6)) fun (d2 : Int) (c3 : Int) => (b2 (confidantseat_in.f K 21 0) fun (c4 : Int) (b9 : Int) => (b2 (confidantseat_in.f K 13 (IntKind.i64.wrap (Int.tmod a0 4))) fun (c5 : Int) (c0 : Int) => (lt ([(⟨d0, c1⟩ : S27), (⟨d1, c2⟩ : S27), (⟨d2, c3⟩ : S27), (⟨c4, b9⟩ : S27), (⟨c5, c0⟩ : S27)] : List S27) fun p5 => (some p5))))))) else (if (Int.tmod a2 16) = 2 then (b2 (confidantseat_in.f K 1 (Int.tmod (IntKind.i64.wrap a0) a4)) fun (f2 : Int) (d3 : Int) => (b2 (confidantseat_in.f K 1 (IntKind.i64.wrap a1)) fun (f3 : Int) (d4 : Int) => (b2 (confidantseat_in.f K 20 (Int.tmod (IntKind.i64.wrap a1) b6)) fun (f4 : Int) (d5 : Int) => (b2 (confidantseat_in.f K 13 3) fun (d6 : Int) (c6 : Int) => (lt ([(⟨f2, d3⟩ : S27), (⟨f3, d4⟩ : S27), (⟨f4, d5⟩ : S27), (⟨d6, c6⟩ : S27)] : List S27) fun p6 => (some p6)))))) else (if (Int.tmod a2 16) = 3 then (b2 (confidantseat_in.f K 12 3) fun (j6 : Int) (f5 : Int) => (b2 (confidantseat_in.f K 21 0) fun (f6 : Int) (d7 : Int) => (b2 (confidantseat_in.f K 13 (IntKind.i64.wrap (Int.tmod a0 4))) fun (f7 : Int) (d8 : Int) => (lt ([(⟨j6, f5⟩ : S27), (⟨f6, d7⟩ : S27), (⟨f7, d8⟩ : S27)] : List S27) fun p7 => (some p7))))) else (if (Int.tmod a2 16) = 4 then (b2 (confidantseat_in.f K 1 (IntKind.i64.wrap (Int.tmod a1 4))) fun (f8 : Int) (d9 : Int) => (b2 (confidantseat_in.f K 16 (Int.tmod (IntKind.i64.wrap a0) a4)) fun (f9 : Int) (e0 : Int) => (b2 (confidantseat_in.f K 13 (IntKind.i64.wrap (Int.tmod a0 3))) fun (g0 : Int) (e1 : Int) => (lt ([(⟨f8, d9⟩ : S27), (⟨f9, e0⟩ : S27), (⟨g0, e1⟩ : S27)] : List S27) fun p8 => (some p8))))) else (if (Int.tmod a2 16) = 5 then (b2 (confidantseat_in.f K 12 (IntKind.i64.wrap (Int.tmod a0 4))) fun (j7 : Int) (g1 : Int) => (b2 (confidantseat_in.f K 17 (Int.tmod (IntKind.i64.wrap a0) a4)) fun (j8 : Int) (g2 : Int) => (b2 (confidantseat_in.f K 13 2) fun (g3 : Int) (e2 : Int) => (lt ([(⟨j7, g1⟩ : S27), (⟨j8, g2⟩ : S27), (⟨g3, e2⟩ : S27)] : List S27) fun p9 => (some p9))))) else (if (Int.tmod a2 16) = 6 then (b2 (confidantseat_in.f K 12 2) fun (j9 : Int) (g4 : Int) => (b2 (confidantseat_in.f K 18 0) fun (g5 : Int) (e3 : Int) => (b2 (confidantseat_in.f K 13 (IntKind.i64.wrap (Int.tmod a1 4))) fun (g6 : Int) (e4 : Int) => (lt ([(⟨j9, g4⟩ : S27), (⟨g5, e3⟩ : S27), (⟨g6, e4⟩ : S27)] : List S27) fun q0 => (some q0))))) else (if (Int.tmod a2 16) = 7 then (b2 (confidantseat_in.f K 12 2) fun (m0 : Int) (g7 : Int) => (b2 (confidantseat_in.f K 12 (IntKind.i64.wrap (Int.tmod a1 4))) fun (m1 : Int) (g8 : Int) => (b2 (confidantseat_in.f K 19 0) fun (g9 : Int) (e5 : Int) => (lt ([(⟨m0, g7⟩ : S27), (⟨m1, g8⟩ : S27), (⟨g9, e5⟩ : S27)] : List S27) fun q1 => (some q1))))) else (lt (fun (p0 : Bool) => (if p0 = true then (b2 (confidantseat_in.f K 12 (IntKind.i64.wrap (Int.tmod a1 4))) fun (m2 : Int) (i0 : Int) => (b2 (confidantseat_in.f K 22 (Int.tmod (IntKind.i64.wrap a0) a4)) fun (m3 : Int) (i1 : Int) => (lt ([(⟨m2, i0⟩ : S27), (⟨m3, i1⟩ : S27)] : List S27) fun q2 => (some q2)))) else (if (Int.tmod a2 16) = 10 then (b2 (confidantseat_in.f K 15 (Int.tmod (IntKind.i64.wrap a0) a4)) fun (o3 : Int) (m4 : Int) => (lt ([(⟨o3, m4⟩ : S27)] : List S27) fun q3 => (some q3))) else (if (Int.tmod a2 16) = 11 then (b2 (confidantseat_in.f K 14 0) fun (m5 : Int) (i2 : Int) => (b2 (confidantseat_in.f K 22 (Int.tmod (IntKind.i64.wrap a0) a4)) fun (m6 : Int) (i3 : Int) => (lt ([(⟨m5, i2⟩ : S27), (⟨m6, i3⟩ : S27)] : List S27) fun q4 => (some q4)))) else (if (Int.tmod a2 16) = 12 then (lt (fun (p1 : Bool) => (if p1 = true then (b2 (confidantseat_in.f K 1 (IntKind.i64.wrap ((IntKind.i64.wrap ((IntKind.i64.wrap (Int.tmod a0 4)) * 65536)) + (IntKind.i64.wrap (Int.tmod a1 3))))) fun (o4 : Int) (m7 : Int) => (b2 (confidantseat_in.f K 21 0) fun (m8 : Int) (i4 : Int) => (b2 (confidantseat_in.f K 2 0) fun (i5 : Int) (e6 : Int) => (lt ([(⟨o4, m7⟩ : S27), (⟨m8, i4⟩ : S27), (⟨i5, e6⟩ : S27)] : List S27) fun q5 => (some q5))))) else (b2 (confidantseat_in.f K 12 (IntKind.i64.wrap (Int.tmod a1 4))) fun (o5 : Int) (m9 : Int) => (if a3 = 0 then none else (b2 (confidantseat_in.f K 23 (Int.tmod (IntKind.i64.wrap a0) a3)) fun (n0 : Int) (i6 : Int) => (b2 (confidantseat_in.f K 13 1) fun (i7 : Int) (e7 : Int) => (lt ([(⟨o5, m9⟩ : S27), (⟨n0, i6⟩ : S27), (⟨i7, e7⟩ : S27)] : List S27) fun q6 => (some q6)))))))) fun t6 => (if a3 = 0 then (t6 true) else (t6 b0))) else (if (Int.tmod a2 16) = 13 then (if a3 = 0 then (b2 (confidantseat_in.f K 1 (IntKind.i64.wrap ((IntKind.i64.wrap ((IntKind.i64.wrap (Int.tmod a0 4)) * 65536)) + (IntKind.i64.wrap (Int.tmod a1 3))))) fun (o6 : Int) (n1 : Int) => (b2 (confidantseat_in.f K 18 0) fun (n2 : Int) (i8 : Int) => (b2 (confidantseat_in.f K 2 0) fun (i9 : Int) (e8 : Int) => (lt ([(⟨o6, n1⟩ : S27), (⟨n2, i8⟩ : S27), (⟨i9, e8⟩ : S27)] : List S27) fun q7 => (some q7))))) else (b2 (confidantseat_in.f K 24 (Int.tmod (IntKind.i64.wrap a0) a3)) fun (o7 : Int) (n3 : Int) => (b2 (confidantseat_in.f K 2 0) fun (n4 : Int) (j0 : Int) => (b2 (confidantseat_in.f K 13 0) fun (j1 : Int) (e9 : Int) => (lt ([(⟨o7, n3⟩ : S27), (⟨n4, j0⟩ : S27), (⟨j1, e9⟩ : S27)] : List S27) fun q8 => (some q8)))))) else (if (Int.tmod a2 16) = 14 then (b2 (confidantseat_in.f K 1 (IntKind.i64.wrap (Int.tmod a0 4))) fun (o8 : Int) (n5 : Int) => (b2 (confidantseat_in.f K 13 1) fun (n6 : Int) (j2 : Int) => (lt ([(⟨o8, n5⟩ : S27), (⟨n6, j2⟩ : S27)] : List S27) fun q9 => (some q9)))) else (b2 (confidantseat_in.f K 1 (IntKind.i64.wrap a0)) fun (o9 : Int) (n7 : Int) => (b2 (confidantseat_in.f K 3 0) fun (n8 : Int) (j3 : Int) => (b2 (confidantseat_in.f K 4 0) fun (j4 : Int) (f0 : Int) => (b2 (confidantseat_in.f K 2 0) fun (f1 : Int) (c7 : Int) => (lt ([(⟨o9, n7⟩ : S27), (⟨n8, j3⟩ : S27), (⟨j4, f0⟩ : S27), (⟨f1, c7⟩ : S27)] : List S27) fun t0 => (some t0))))))))))))) fun t5 => (if (Int.tmod a2 16) = 8 then (t5 true) else (t5 (decide ((Int.tmod a2 16) = 9))))))))))))))
set_option maxRecDepth 100000 in
theorem confidantseat_piece.calls {K : Nat} {a2 : Int} {a0 : Int} {a1 : Int} {a4 : Int} {b6 : Int} {a3 : Int} {b0 : Bool} {t1 : List S27} {B w : World} {os : List Ass} {rs : List Ro} (H : confidantseat_piece.f K a2 a0 a1 a4 b6 a3 b0 = some t1) (hS : St B w (os) (rs)) :
  Calls Tryd.prog 19 [ig a2, ig a0, ig a1, ia a4, ia b6, ia a3, .bool (b0)].toArray w (fun en w' => ∃ v, en = .returned v ∧ ∃ y7 : Option Addr, ∃ y9 : Nat, v = sv y7 y9 t1 ∧ St B w' (Ass.own 27 kS27 y7 y9 t1 :: os) (rs)) := by
 unfold confidantseat_piece.f at H
 refine calls_of_EW (args := [ig a2, ig a0, ig a1, ia a4, ia b6, ia a3, .bool (b0)]) (c := Cd19) 214 Tryd.func19 (by kernel_rfl) (by kernel_rfl) (by kernel_rfl) ?_
 refine EW.sq (by kernel_rfl) ?_
 refine EW.rg (by kernel_rfl) ?_
 refine EL.quick 1 [0, 1, 2, 3, 4, 5, 6] [(0, ig a2), (1, ig a0), (2, ig a1), (3, ia a4), (4, ia b6), (5, ia a3), (6, .bool (b0))] (by kernel_rfl) ?_
 refine EL.done (by kernel_rfl) ?_
 refine EQ.code ?_
 refine EW.sq (by kernel_rfl) ?_
 obtain ⟨A7, H⟩ := ite_out H
 obtain ⟨A8, H⟩ := ite_out H
 have hS := hS.drew
 refine EW.dr (B := B) [] [] (by kernel_rfl) (by kernel_rfl) ?_
 have hN : Region.noSelect Cd19.r.l.ops = true := (by kernel_rfl)
 have hF : freeAll Cd19.r.l.ops = true := (by kernel_rfl)
 have hC : Core B [] [] _ := ⟨_, _, hS⟩
 refine ED.quick hN hF hC [0, 1, 2, 4, 5, 6] [0, 1, 2, 5, 6, 18, 19, 22, 23] 4 [(0, ig a2), (1, ig a0), (2, ig a1), (5, ia a3), (6, .bool (b0)), (18, ia (IntKind.i64.wrap a0)), (19, ia a4), (22, ia (IntKind.i64.wrap a1)), (23, ia b6)] (bm 10 119) (by kernel_rfl) (by kernel_rfl) ?_
 refine ED.Y hN hF hC 3 3 (bm 10 127) (by kernel_rfl) (by kernel_rfl) rfl (fun _ _ _ hS => YO.div .rem .i64 (IntKind.i64.wrap a0) a4 (Int.tmod (IntKind.i64.wrap a0) a4) 20 (by kernel_rfl) (by kernel_rfl) (by kernel_rfl) A7 (by first | exact .inl ⟨rfl, rfl⟩ | exact .inr ⟨rfl, rfl⟩)) ?_
 refine ED.quick hN hF hC [8] [0, 1, 2, 5, 6, 15, 22, 23] 2 [(0, ig a2), (1, ig a0), (2, ig a1), (5, ia a3), (6, .bool (b0)), (15, ia (Int.tmod (IntKind.i64.wrap a0) a4)), (22, ia (IntKind.i64.wrap a1)), (23, ia b6)] (bm 10 383) (by kernel_rfl) (by kernel_rfl) ?_
 refine ED.Y hN hF hC 7 1 (bm 10 511) (by kernel_rfl) (by kernel_rfl) rfl (fun _ _ _ hS => YO.div .rem .i64 (IntKind.i64.wrap a1) b6 (Int.tmod (IntKind.i64.wrap a1) b6) 24 (by kernel_rfl) (by kernel_rfl) (by kernel_rfl) A8 (by first | exact .inl ⟨rfl, rfl⟩ | exact .inr ⟨rfl, rfl⟩)) ?_
 refine ED.quick hN hF hC [9] [0, 1, 2, 5, 6, 15, 16] 0 [(0, ig a2), (1, ig a0), (2, ig a1), (5, ia a3), (6, .bool (b0)), (15, ia (Int.tmod (IntKind.i64.wrap a0) a4)), (16, ia (Int.tmod (IntKind.i64.wrap a1) b6))] (bm 10 1023) (by kernel_rfl) (by kernel_rfl) ?_
 refine ED.done (by kernel_rfl) ?_
 refine EQ.code ?_
 refine EW.sq (by kernel_rfl) ?_
 refine EW.sq (by kernel_rfl) ?_
 refine EW.rg (by kernel_rfl) ?_
 refine EL.quick 2 [1, 2, 5, 6, 15, 16, 26] [(1, ig a0), (2, ig a1), (5, ia a3), (6, .bool (b0)), (15, ia (Int.tmod (IntKind.i64.wrap a0) a4)), (16, ia (Int.tmod (IntKind.i64.wrap a1) b6)), (26, ig (Int.tmod a2 16))] (by kernel_rfl) ?_
 refine EL.done (by kernel_rfl) ?_
 refine EQ.code ?_
 refine EW.bl 0 (by kernel_rfl) ?_
 refine EW.sq (by kernel_rfl) ?_
 refine EW.rg (by kernel_rfl) ?_
 refine EL.quick 2 [1, 2, 5, 6, 15, 16, 26, 27] [(1, ig a0), (2, ig a1), (5, ia a3), (6, .bool (b0)), (15, ia (Int.tmod (IntKind.i64.wrap a0) a4)), (16, ia (Int.tmod (IntKind.i64.wrap a1) b6)), (26, ig (Int.tmod a2 16)), (27, .bool (decide ((Int.tmod a2 16) = 0)))] (by kernel_rfl) ?_
 refine EL.done (by kernel_rfl) ?_
 refine EQ.code ?_
 refine EW.cdP ((Int.tmod a2 16) = 0) (by kernel_rfl) (by kernel_rfl) (fun x1 => ?_) (fun x1 => ?_)
 ·rw [if_pos x1] at H
  refine EW.sq (by kernel_rfl) ?_
  obtain ⟨b5, b1, y6, H⟩ := b2_out H
  obtain ⟨b3, a8, n9, H⟩ := b2_out H
  obtain ⟨b4, o2, H⟩ := lt_out H
  obtain ⟨c8, H⟩ := ite_in H
  obtain ⟨c9, H⟩ := ite_in H
  obtain ⟨a9, a6, o0, H⟩ := b2_out H
  obtain ⟨a7, a5, o1, H⟩ := b2_out H
  obtain ⟨b7, b8, H⟩ := lt_out H
  refine EW.mt (fun a w => ∃ p2 : Option Addr, ∃ p3 : Nat, ∃ y8 : Option Addr, ∃ z0 : Nat, Sat 214 [(14, sv p2 p3 b7)] a ∧ St B w (Ass.own 27 kS27 p2 p3 b7 :: Ass.own 3 (Kd.int .i64) y8 z0 b4 :: os) (rs)) (by kernel_rfl) ?_ (fun a w hI => ?_)
  ·have hS := hS.drew
   refine EW.dr (B := B) [] [] (by kernel_rfl) (by kernel_rfl) ?_
   have hN : Region.noSelect Cd19.r.r.l.r.l.r.l.l.ops = true := (by kernel_rfl)
   have hF : freeAll Cd19.r.r.l.r.l.r.l.l.ops = true := (by kernel_rfl)
   have hC : Core B [] [] _ := ⟨_, _, hS⟩
   refine ED.quick hN hF hC [0, 1, 3, 4, 5, 8, 9, 13, 14, 15] [30, 34, 38, 44] 9 [(30, ia (IntKind.i64.wrap a0)), (34, ia (IntKind.i64.wrap (Int.tmod a1 3))), (38, ig (Int.tmod a0 6)), (44, ia (IntKind.i64.wrap (Int.tmod a1 4)))] (bm 19 58171) (by kernel_rfl) (by kernel_rfl) ?_
   refine ED.two 2 7 8 (by kernel_rfl) (by kernel_rfl) ?_ ?_
   ·have hq := confidantseat_in.calls y6 hS
    refine EO.callD 20 [ia 1, ia (IntKind.i64.wrap a0)] _ 31 (by kernel_rfl) (by kernel_rfl) (by kernel_rfl) hq ?_
    rintro v w ⟨rfl, hS⟩
    have hC := hC.again ⟨_, _, hS⟩
    refine ⟨hC, ?_⟩
    refine ED.at' (bm 19 58175) (by kernel_rfl) ?_
    refine ED.two 6 7 7 (by kernel_rfl) (by kernel_rfl) ?_ ?_
    ·have hq := confidantseat_in.calls n9 hS
     refine EO.callD 20 [ia 1, ia (IntKind.i64.wrap (Int.tmod a1 3))] _ 35 (by kernel_rfl) (by kernel_rfl) (by kernel_rfl) hq ?_
     rintro v w ⟨rfl, hS⟩
     have hC := hC.again ⟨_, _, hS⟩
     refine ⟨hC, ?_⟩
     refine ED.at' (bm 19 58239) (by kernel_rfl) ?_
     refine ED.one 7 6 (bm 19 58367) (by kernel_rfl) (by kernel_rfl) (by kernel_rfl) (EO.lit hS (Kd.int .i64) 3 83 6 #[(0, ia 4), (1, ia 5), (2, ia 6), (3, ia 7), (4, ia 8), (5, ia 9)] [ia 4, ia 5, ia 6, ia 7, ia 8, ia 9] b4 36 (by kernel_rfl) (by kernel_rfl) (by kernel_rfl) (fun _ => (by kernel_rfl)) (by rw [o2]; rfl) (by kernel_rfl) (fun w G hr => (by rw [o2]; exact ⟨[ia 4], [ia 5, ia 6, ia 7, ia 8, ia 9], rfl, rfl, ⟨[ia 5], [ia 6, ia 7, ia 8, ia 9], rfl, rfl, ⟨[ia 6], [ia 7, ia 8, ia 9], rfl, rfl, ⟨[ia 7], [ia 8, ia 9], rfl, rfl, ⟨[ia 8], [ia 9], rfl, rfl, ⟨[ia 9], [], rfl, rfl, rfl⟩⟩⟩⟩⟩⟩)) ?_)
     intro t7 w hS
     have hC := hC.again ⟨_, _, hS⟩
     refine ⟨hC, ?_⟩
     refine ED.Y hN hF hC 10 5 (bm 19 59391) (by kernel_rfl) (by kernel_rfl) rfl (fun _ _ _ hS => YO.idx 83 1 ⟨t7, 0, none⟩ b4.length 6 .u8 (Int.tmod a0 6) 39 (by kernel_rfl) (by kernel_rfl) (by kernel_rfl) (by kernel_rfl) c8 c9) ?_
     refine ED.one 11 4 (bm 19 61439) (by kernel_rfl) (by kernel_rfl) (by kernel_rfl) (EO.Y (YO.loadEl hS (Kd.int .i64) ⟨t7, 0, none⟩ 6 b4 (Rd.own 0 3 rfl) 0 (encI .i64) encI_of (Int.tmod a0 6) c8 c9 3 1 0 1 rfl (ia (b4.getD (Int.tmod a0 6).toNat 0)) 40 (by kernel_rfl) (by kernel_rfl) (by kernel_rfl) (by kernel_rfl)) ?_)
     have hC := hC.again ⟨_, _, hS⟩
     refine ⟨hC, ?_⟩
     have hq := confidantseat_in.calls o0 hS
     refine ED.one 12 3 (bm 19 65535) (by kernel_rfl) (by kernel_rfl) (by kernel_rfl) (EO.callD 20 [ia (b4.getD (Int.tmod a0 6).toNat 0), ia 0] _ 41 (by kernel_rfl) (by kernel_rfl) (by kernel_rfl) hq ?_)
     rintro v w ⟨rfl, hS⟩
     have hC := hC.again ⟨_, _, hS⟩
     refine ⟨hC, ?_⟩
     have hq := confidantseat_in.calls o1 hS
     refine ED.one 16 2 (bm 19 131071) (by kernel_rfl) (by kernel_rfl) (by kernel_rfl) (EO.callD 20 [ia 13, ia (IntKind.i64.wrap (Int.tmod a1 4))] _ 45 (by kernel_rfl) (by kernel_rfl) (by kernel_rfl) hq ?_)
     rintro v w ⟨rfl, hS⟩
     have hC := hC.again ⟨_, _, hS⟩
     refine ⟨hC, ?_⟩
     refine ED.one 17 1 (bm 19 262143) (by kernel_rfl) (by kernel_rfl) (by kernel_rfl) (EO.lit hS kS27 27 25 4 #[(0, ag [ia b5, ib b1]), (1, ag [ia b3, ib a8]), (2, ag [ia a9, ib a6]), (3, ag [ia a7, ib a5])] [ia b5, ib b1, ia b3, ib a8, ia a9, ib a6, ia a7, ib a5] b7 46 (by kernel_rfl) (by kernel_rfl) (by kernel_rfl) (fun _ => (by kernel_rfl)) (by rw [b8]; rfl) (by kernel_rfl) (fun w G hr => (by rw [b8]; exact ⟨[ia b5, ib b1], [ia b3, ib a8, ia a9, ib a6, ia a7, ib a5], rfl, ⟨[ia b5], [ib b1], rfl, rfl, ⟨[ib b1], [], rfl, rfl, rfl⟩⟩, ⟨[ia b3, ib a8], [ia a9, ib a6, ia a7, ib a5], rfl, ⟨[ia b3], [ib a8], rfl, rfl, ⟨[ib a8], [], rfl, rfl, rfl⟩⟩, ⟨[ia a9, ib a6], [ia a7, ib a5], rfl, ⟨[ia a9], [ib a6], rfl, rfl, ⟨[ib a6], [], rfl, rfl, rfl⟩⟩, ⟨[ia a7, ib a5], [], rfl, ⟨[ia a7], [ib a5], rfl, rfl, ⟨[ib a5], [], rfl, rfl, rfl⟩⟩, rfl⟩⟩⟩⟩)) ?_)
     intro t8 w hS
     have hC := hC.again ⟨_, _, hS⟩
     refine ⟨hC, ?_⟩
     refine ED.quick hN hF hC [18] [14] 0 [(14, sv (some ⟨t8, 0, none⟩) 4 b7)] (bm 19 524287) (by kernel_rfl) (by kernel_rfl) ?_
     refine ED.done (by kernel_rfl) ?_
     refine EQ.to ?_
     refine EQ.keep [14] [(14, sv (some ⟨t8, 0, none⟩) 4 b7)] (by kernel_rfl) ?_
     exact fun a ha => ⟨(some ⟨t8, 0, none⟩), 4, (some ⟨t7, 0, none⟩), 6, ha, (hS.re [1, 1] [] rfl (sub_self))⟩
    ·refine EO.lit hS (Kd.int .i64) 3 83 6 #[(0, ia 4), (1, ia 5), (2, ia 6), (3, ia 7), (4, ia 8), (5, ia 9)] [ia 4, ia 5, ia 6, ia 7, ia 8, ia 9] b4 36 (by kernel_rfl) (by kernel_rfl) (by kernel_rfl) (fun _ => (by kernel_rfl)) (by rw [o2]; rfl) (by kernel_rfl) (fun w G hr => (by rw [o2]; exact ⟨[ia 4], [ia 5, ia 6, ia 7, ia 8, ia 9], rfl, rfl, ⟨[ia 5], [ia 6, ia 7, ia 8, ia 9], rfl, rfl, ⟨[ia 6], [ia 7, ia 8, ia 9], rfl, rfl, ⟨[ia 7], [ia 8, ia 9], rfl, rfl, ⟨[ia 8], [ia 9], rfl, rfl, ⟨[ia 9], [], rfl, rfl, rfl⟩⟩⟩⟩⟩⟩)) ?_
     intro p4 w hS
     have hC := hC.again ⟨_, _, hS⟩
     refine ⟨hC, ?_⟩
     refine ED.at' (bm 19 58303) (by kernel_rfl) ?_
     refine ED.Y hN hF hC 10 6 (bm 19 59327) (by kernel_rfl) (by kernel_rfl) rfl (fun _ _ _ hS => YO.idx 83 1 ⟨p4, 0, none⟩ b4.length 6 .u8 (Int.tmod a0 6) 39 (by kernel_rfl) (by kernel_rfl) (by kernel_rfl) (by kernel_rfl) c8 c9) ?_
     refine ED.two 6 11 5 (by kernel_rfl) (by kernel_rfl) ?_ ?_
     ·have hq := confidantseat_in.calls n9 hS
      refine EO.callD 20 [ia 1, ia (IntKind.i64.wrap (Int.tmod a1 3))] _ 35 (by kernel_rfl) (by kernel_rfl) (by kernel_rfl) hq ?_
      rintro v w ⟨rfl, hS⟩
      have hC := hC.again ⟨_, _, hS⟩
      refine ⟨hC, ?_⟩
      refine ED.at' (bm 19 59391) (by kernel_rfl) ?_
      refine ED.one 11 4 (bm 19 61439) (by kernel_rfl) (by kernel_rfl) (by kernel_rfl) (EO.Y (YO.loadEl hS (Kd.int .i64) ⟨p4, 0, none⟩ 6 b4 (Rd.own 0 3 rfl) 0 (encI .i64) encI_of (Int.tmod a0 6) c8 c9 3 1 0 1 rfl (ia (b4.getD (Int.tmod a0 6).toNat 0)) 40 (by kernel_rfl) (by kernel_rfl) (by kernel_rfl) (by kernel_rfl)) ?_)
      have hC := hC.again ⟨_, _, hS⟩
      refine ⟨hC, ?_⟩
      have hq := confidantseat_in.calls o0 hS
      refine ED.one 12 3 (bm 19 65535) (by kernel_rfl) (by kernel_rfl) (by kernel_rfl) (EO.callD 20 [ia (b4.getD (Int.tmod a0 6).toNat 0), ia 0] _ 41 (by kernel_rfl) (by kernel_rfl) (by kernel_rfl) hq ?_)
      rintro v w ⟨rfl, hS⟩
      have hC := hC.again ⟨_, _, hS⟩
      refine ⟨hC, ?_⟩
      have hq := confidantseat_in.calls o1 hS
      refine ED.one 16 2 (bm 19 131071) (by kernel_rfl) (by kernel_rfl) (by kernel_rfl) (EO.callD 20 [ia 13, ia (IntKind.i64.wrap (Int.tmod a1 4))] _ 45 (by kernel_rfl) (by kernel_rfl) (by kernel_rfl) hq ?_)
      rintro v w ⟨rfl, hS⟩
      have hC := hC.again ⟨_, _, hS⟩
      refine ⟨hC, ?_⟩
      refine ED.one 17 1 (bm 19 262143) (by kernel_rfl) (by kernel_rfl) (by kernel_rfl) (EO.lit hS kS27 27 25 4 #[(0, ag [ia b5, ib b1]), (1, ag [ia b3, ib a8]), (2, ag [ia a9, ib a6]), (3, ag [ia a7, ib a5])] [ia b5, ib b1, ia b3, ib a8, ia a9, ib a6, ia a7, ib a5] b7 46 (by kernel_rfl) (by kernel_rfl) (by kernel_rfl) (fun _ => (by kernel_rfl)) (by rw [b8]; rfl) (by kernel_rfl) (fun w G hr => (by rw [b8]; exact ⟨[ia b5, ib b1], [ia b3, ib a8, ia a9, ib a6, ia a7, ib a5], rfl, ⟨[ia b5], [ib b1], rfl, rfl, ⟨[ib b1], [], rfl, rfl, rfl⟩⟩, ⟨[ia b3, ib a8], [ia a9, ib a6, ia a7, ib a5], rfl, ⟨[ia b3], [ib a8], rfl, rfl, ⟨[ib a8], [], rfl, rfl, rfl⟩⟩, ⟨[ia a9, ib a6], [ia a7, ib a5], rfl, ⟨[ia a9], [ib a6], rfl, rfl, ⟨[ib a6], [], rfl, rfl, rfl⟩⟩, ⟨[ia a7, ib a5], [], rfl, ⟨[ia a7], [ib a5], rfl, rfl, ⟨[ib a5], [], rfl, rfl, rfl⟩⟩, rfl⟩⟩⟩⟩)) ?_)
      intro t9 w hS
      have hC := hC.again ⟨_, _, hS⟩
      refine ⟨hC, ?_⟩
      refine ED.quick hN hF hC [18] [14] 0 [(14, sv (some ⟨t9, 0, none⟩) 4 b7)] (bm 19 524287) (by kernel_rfl) (by kernel_rfl) ?_
      refine ED.done (by kernel_rfl) ?_
      refine EQ.to ?_
      refine EQ.keep [14] [(14, sv (some ⟨t9, 0, none⟩) 4 b7)] (by kernel_rfl) ?_
      exact fun a ha => ⟨(some ⟨t9, 0, none⟩), 4, (some ⟨p4, 0, none⟩), 6, ha, (hS.re [1, 1] [] rfl (sub_self))⟩
     ·refine EO.Y (YO.loadEl hS (Kd.int .i64) ⟨p4, 0, none⟩ 6 b4 (Rd.own 0 3 rfl) 0 (encI .i64) encI_of (Int.tmod a0 6) c8 c9 3 1 0 1 rfl (ia (b4.getD (Int.tmod a0 6).toNat 0)) 40 (by kernel_rfl) (by kernel_rfl) (by kernel_rfl) (by kernel_rfl)) ?_
      have hC := hC.again ⟨_, _, hS⟩
      refine ⟨hC, ?_⟩
      refine ED.at' (bm 19 61375) (by kernel_rfl) ?_
      have hq := confidantseat_in.calls n9 hS
      refine ED.one 6 4 (bm 19 61439) (by kernel_rfl) (by kernel_rfl) (by kernel_rfl) (EO.callD 20 [ia 1, ia (IntKind.i64.wrap (Int.tmod a1 3))] _ 35 (by kernel_rfl) (by kernel_rfl) (by kernel_rfl) hq ?_)
      rintro v w ⟨rfl, hS⟩
      have hC := hC.again ⟨_, _, hS⟩
      refine ⟨hC, ?_⟩
      have hq := confidantseat_in.calls o0 hS
      refine ED.one 12 3 (bm 19 65535) (by kernel_rfl) (by kernel_rfl) (by kernel_rfl) (EO.callD 20 [ia (b4.getD (Int.tmod a0 6).toNat 0), ia 0] _ 41 (by kernel_rfl) (by kernel_rfl) (by kernel_rfl) hq ?_)
      rintro v w ⟨rfl, hS⟩
      have hC := hC.again ⟨_, _, hS⟩
      refine ⟨hC, ?_⟩
      have hq := confidantseat_in.calls o1 hS
      refine ED.one 16 2 (bm 19 131071) (by kernel_rfl) (by kernel_rfl) (by kernel_rfl) (EO.callD 20 [ia 13, ia (IntKind.i64.wrap (Int.tmod a1 4))] _ 45 (by kernel_rfl) (by kernel_rfl) (by kernel_rfl) hq ?_)
      rintro v w ⟨rfl, hS⟩
      have hC := hC.again ⟨_, _, hS⟩
      refine ⟨hC, ?_⟩
      refine ED.one 17 1 (bm 19 262143) (by kernel_rfl) (by kernel_rfl) (by kernel_rfl) (EO.lit hS kS27 27 25 4 #[(0, ag [ia b5, ib b1]), (1, ag [ia b3, ib a8]), (2, ag [ia a9, ib a6]), (3, ag [ia a7, ib a5])] [ia b5, ib b1, ia b3, ib a8, ia a9, ib a6, ia a7, ib a5] b7 46 (by kernel_rfl) (by kernel_rfl) (by kernel_rfl) (fun _ => (by kernel_rfl)) (by rw [b8]; rfl) (by kernel_rfl) (fun w G hr => (by rw [b8]; exact ⟨[ia b5, ib b1], [ia b3, ib a8, ia a9, ib a6, ia a7, ib a5], rfl, ⟨[ia b5], [ib b1], rfl, rfl, ⟨[ib b1], [], rfl, rfl, rfl⟩⟩, ⟨[ia b3, ib a8], [ia a9, ib a6, ia a7, ib a5], rfl, ⟨[ia b3], [ib a8], rfl, rfl, ⟨[ib a8], [], rfl, rfl, rfl⟩⟩, ⟨[ia a9, ib a6], [ia a7, ib a5], rfl, ⟨[ia a9], [ib a6], rfl, rfl, ⟨[ib a6], [], rfl, rfl, rfl⟩⟩, ⟨[ia a7, ib a5], [], rfl, ⟨[ia a7], [ib a5], rfl, rfl, ⟨[ib a5], [], rfl, rfl, rfl⟩⟩, rfl⟩⟩⟩⟩)) ?_)
      intro u0 w hS
      have hC := hC.again ⟨_, _, hS⟩
      refine ⟨hC, ?_⟩
      refine ED.quick hN hF hC [18] [14] 0 [(14, sv (some ⟨u0, 0, none⟩) 4 b7)] (bm 19 524287) (by kernel_rfl) (by kernel_rfl) ?_
      refine ED.done (by kernel_rfl) ?_
      refine EQ.to ?_
      refine EQ.keep [14] [(14, sv (some ⟨u0, 0, none⟩) 4 b7)] (by kernel_rfl) ?_
      exact fun a ha => ⟨(some ⟨u0, 0, none⟩), 4, (some ⟨p4, 0, none⟩), 6, ha, (hS.re [1, 1] [] rfl (sub_self))⟩
   ·refine EO.lit hS (Kd.int .i64) 3 83 6 #[(0, ia 4), (1, ia 5), (2, ia 6), (3, ia 7), (4, ia 8), (5, ia 9)] [ia 4, ia 5, ia 6, ia 7, ia 8, ia 9] b4 36 (by kernel_rfl) (by kernel_rfl) (by kernel_rfl) (fun _ => (by kernel_rfl)) (by rw [o2]; rfl) (by kernel_rfl) (fun w G hr => (by rw [o2]; exact ⟨[ia 4], [ia 5, ia 6, ia 7, ia 8, ia 9], rfl, rfl, ⟨[ia 5], [ia 6, ia 7, ia 8, ia 9], rfl, rfl, ⟨[ia 6], [ia 7, ia 8, ia 9], rfl, rfl, ⟨[ia 7], [ia 8, ia 9], rfl, rfl, ⟨[ia 8], [ia 9], rfl, rfl, ⟨[ia 9], [], rfl, rfl, rfl⟩⟩⟩⟩⟩⟩)) ?_
    intro j5 w hS
    have hC := hC.again ⟨_, _, hS⟩
    refine ⟨hC, ?_⟩
    refine ED.at' (bm 19 58299) (by kernel_rfl) ?_
    refine ED.Y hN hF hC 10 7 (bm 19 59323) (by kernel_rfl) (by kernel_rfl) rfl (fun _ _ _ hS => YO.idx 83 1 ⟨j5, 0, none⟩ b4.length 6 .u8 (Int.tmod a0 6) 39 (by kernel_rfl) (by kernel_rfl) (by kernel_rfl) (by kernel_rfl) c8 c9) ?_
    refine ED.two 2 11 6 (by kernel_rfl) (by kernel_rfl) ?_ ?_
    ·have hq := confidantseat_in.calls y6 hS
     refine EO.callD 20 [ia 1, ia (IntKind.i64.wrap a0)] _ 31 (by kernel_rfl) (by kernel_rfl) (by kernel_rfl) hq ?_
     rintro v w ⟨rfl, hS⟩
     have hC := hC.again ⟨_, _, hS⟩
     refine ⟨hC, ?_⟩
     refine ED.at' (bm 19 59327) (by kernel_rfl) ?_
     refine ED.two 6 11 5 (by kernel_rfl) (by kernel_rfl) ?_ ?_
     ·have hq := confidantseat_in.calls n9 hS
      refine EO.callD 20 [ia 1, ia (IntKind.i64.wrap (Int.tmod a1 3))] _ 35 (by kernel_rfl) (by kernel_rfl) (by kernel_rfl) hq ?_
      rintro v w ⟨rfl, hS⟩
      have hC := hC.again ⟨_, _, hS⟩
      refine ⟨hC, ?_⟩
      refine ED.at' (bm 19 59391) (by kernel_rfl) ?_
      refine ED.one 11 4 (bm 19 61439) (by kernel_rfl) (by kernel_rfl) (by kernel_rfl) (EO.Y (YO.loadEl hS (Kd.int .i64) ⟨j5, 0, none⟩ 6 b4 (Rd.own 0 3 rfl) 0 (encI .i64) encI_of (Int.tmod a0 6) c8 c9 3 1 0 1 rfl (ia (b4.getD (Int.tmod a0 6).toNat 0)) 40 (by kernel_rfl) (by kernel_rfl) (by kernel_rfl) (by kernel_rfl)) ?_)
      have hC := hC.again ⟨_, _, hS⟩
      refine ⟨hC, ?_⟩
      have hq := confidantseat_in.calls o0 hS
      refine ED.one 12 3 (bm 19 65535) (by kernel_rfl) (by kernel_rfl) (by kernel_rfl) (EO.callD 20 [ia (b4.getD (Int.tmod a0 6).toNat 0), ia 0] _ 41 (by kernel_rfl) (by kernel_rfl) (by kernel_rfl) hq ?_)
      rintro v w ⟨rfl, hS⟩
      have hC := hC.again ⟨_, _, hS⟩
      refine ⟨hC, ?_⟩
      have hq := confidantseat_in.calls o1 hS
      refine ED.one 16 2 (bm 19 131071) (by kernel_rfl) (by kernel_rfl) (by kernel_rfl) (EO.callD 20 [ia 13, ia (IntKind.i64.wrap (Int.tmod a1 4))] _ 45 (by kernel_rfl) (by kernel_rfl) (by kernel_rfl) hq ?_)
      rintro v w ⟨rfl, hS⟩
      have hC := hC.again ⟨_, _, hS⟩
      refine ⟨hC, ?_⟩
      refine ED.one 17 1 (bm 19 262143) (by kernel_rfl) (by kernel_rfl) (by kernel_rfl) (EO.lit hS kS27 27 25 4 #[(0, ag [ia b5, ib b1]), (1, ag [ia b3, ib a8]), (2, ag [ia a9, ib a6]), (3, ag [ia a7, ib a5])] [ia b5, ib b1, ia b3, ib a8, ia a9, ib a6, ia a7, ib a5] b7 46 (by kernel_rfl) (by kernel_rfl) (by kernel_rfl) (fun _ => (by kernel_rfl)) (by rw [b8]; rfl) (by kernel_rfl) (fun w G hr => (by rw [b8]; exact ⟨[ia b5, ib b1], [ia b3, ib a8, ia a9, ib a6, ia a7, ib a5], rfl, ⟨[ia b5], [ib b1], rfl, rfl, ⟨[ib b1], [], rfl, rfl, rfl⟩⟩, ⟨[ia b3, ib a8], [ia a9, ib a6, ia a7, ib a5], rfl, ⟨[ia b3], [ib a8], rfl, rfl, ⟨[ib a8], [], rfl, rfl, rfl⟩⟩, ⟨[ia a9, ib a6], [ia a7, ib a5], rfl, ⟨[ia a9], [ib a6], rfl, rfl, ⟨[ib a6], [], rfl, rfl, rfl⟩⟩, ⟨[ia a7, ib a5], [], rfl, ⟨[ia a7], [ib a5], rfl, rfl, ⟨[ib a5], [], rfl, rfl, rfl⟩⟩, rfl⟩⟩⟩⟩)) ?_)
      intro u1 w hS
      have hC := hC.again ⟨_, _, hS⟩
      refine ⟨hC, ?_⟩
      refine ED.quick hN hF hC [18] [14] 0 [(14, sv (some ⟨u1, 0, none⟩) 4 b7)] (bm 19 524287) (by kernel_rfl) (by kernel_rfl) ?_
      refine ED.done (by kernel_rfl) ?_
      refine EQ.to ?_
      refine EQ.keep [14] [(14, sv (some ⟨u1, 0, none⟩) 4 b7)] (by kernel_rfl) ?_
      exact fun a ha => ⟨(some ⟨u1, 0, none⟩), 4, (some ⟨j5, 0, none⟩), 6, ha, (hS.re [1, 1] [] rfl (sub_self))⟩
     ·refine EO.Y (YO.loadEl hS (Kd.int .i64) ⟨j5, 0, none⟩ 6 b4 (Rd.own 0 3 rfl) 0 (encI .i64) encI_of (Int.tmod a0 6) c8 c9 3 1 0 1 rfl (ia (b4.getD (Int.tmod a0 6).toNat 0)) 40 (by kernel_rfl) (by kernel_rfl) (by kernel_rfl) (by kernel_rfl)) ?_
      have hC := hC.again ⟨_, _, hS⟩
      refine ⟨hC, ?_⟩
      refine ED.at' (bm 19 61375) (by kernel_rfl) ?_
      have hq := confidantseat_in.calls n9 hS
      refine ED.one 6 4 (bm 19 61439) (by kernel_rfl) (by kernel_rfl) (by kernel_rfl) (EO.callD 20 [ia 1, ia (IntKind.i64.wrap (Int.tmod a1 3))] _ 35 (by kernel_rfl) (by kernel_rfl) (by kernel_rfl) hq ?_)
      rintro v w ⟨rfl, hS⟩
      have hC := hC.again ⟨_, _, hS⟩
      refine ⟨hC, ?_⟩
      have hq := confidantseat_in.calls o0 hS
      refine ED.one 12 3 (bm 19 65535) (by kernel_rfl) (by kernel_rfl) (by kernel_rfl) (EO.callD 20 [ia (b4.getD (Int.tmod a0 6).toNat 0), ia 0] _ 41 (by kernel_rfl) (by kernel_rfl) (by kernel_rfl) hq ?_)
      rintro v w ⟨rfl, hS⟩
      have hC := hC.again ⟨_, _, hS⟩
      refine ⟨hC, ?_⟩
      have hq := confidantseat_in.calls o1 hS
      refine ED.one 16 2 (bm 19 131071) (by kernel_rfl) (by kernel_rfl) (by kernel_rfl) (EO.callD 20 [ia 13, ia (IntKind.i64.wrap (Int.tmod a1 4))] _ 45 (by kernel_rfl) (by kernel_rfl) (by kernel_rfl) hq ?_)
      rintro v w ⟨rfl, hS⟩
      have hC := hC.again ⟨_, _, hS⟩
      refine ⟨hC, ?_⟩
      refine ED.one 17 1 (bm 19 262143) (by kernel_rfl) (by kernel_rfl) (by kernel_rfl) (EO.lit hS kS27 27 25 4 #[(0, ag [ia b5, ib b1]), (1, ag [ia b3, ib a8]), (2, ag [ia a9, ib a6]), (3, ag [ia a7, ib a5])] [ia b5, ib b1, ia b3, ib a8, ia a9, ib a6, ia a7, ib a5] b7 46 (by kernel_rfl) (by kernel_rfl) (by kernel_rfl) (fun _ => (by kernel_rfl)) (by rw [b8]; rfl) (by kernel_rfl) (fun w G hr => (by rw [b8]; exact ⟨[ia b5, ib b1], [ia b3, ib a8, ia a9, ib a6, ia a7, ib a5], rfl, ⟨[ia b5], [ib b1], rfl, rfl, ⟨[ib b1], [], rfl, rfl, rfl⟩⟩, ⟨[ia b3, ib a8], [ia a9, ib a6, ia a7, ib a5], rfl, ⟨[ia b3], [ib a8], rfl, rfl, ⟨[ib a8], [], rfl, rfl, rfl⟩⟩, ⟨[ia a9, ib a6], [ia a7, ib a5], rfl, ⟨[ia a9], [ib a6], rfl, rfl, ⟨[ib a6], [], rfl, rfl, rfl⟩⟩, ⟨[ia a7, ib a5], [], rfl, ⟨[ia a7], [ib a5], rfl, rfl, ⟨[ib a5], [], rfl, rfl, rfl⟩⟩, rfl⟩⟩⟩⟩)) ?_)
      intro u2 w hS
      have hC := hC.again ⟨_, _, hS⟩
      refine ⟨hC, ?_⟩
      refine ED.quick hN hF hC [18] [14] 0 [(14, sv (some ⟨u2, 0, none⟩) 4 b7)] (bm 19 524287) (by kernel_rfl) (by kernel_rfl) ?_
      refine ED.done (by kernel_rfl) ?_
      refine EQ.to ?_
      refine EQ.keep [14] [(14, sv (some ⟨u2, 0, none⟩) 4 b7)] (by kernel_rfl) ?_
      exact fun a ha => ⟨(some ⟨u2, 0, none⟩), 4, (some ⟨j5, 0, none⟩), 6, ha, (hS.re [1, 1] [] rfl (sub_self))⟩
    ·refine EO.Y (YO.loadEl hS (Kd.int .i64) ⟨j5, 0, none⟩ 6 b4 (Rd.own 0 3 rfl) 0 (encI .i64) encI_of (Int.tmod a0 6) c8 c9 3 1 0 1 rfl (ia (b4.getD (Int.tmod a0 6).toNat 0)) 40 (by kernel_rfl) (by kernel_rfl) (by kernel_rfl) (by kernel_rfl)) ?_
     have hC := hC.again ⟨_, _, hS⟩
     refine ⟨hC, ?_⟩
     refine ED.at' (bm 19 61371) (by kernel_rfl) ?_
     have hq := confidantseat_in.calls y6 hS
     refine ED.one 2 5 (bm 19 61375) (by kernel_rfl) (by kernel_rfl) (by kernel_rfl) (EO.callD 20 [ia 1, ia (IntKind.i64.wrap a0)] _ 31 (by kernel_rfl) (by kernel_rfl) (by kernel_rfl) hq ?_)
     rintro v w ⟨rfl, hS⟩
     have hC := hC.again ⟨_, _, hS⟩
     refine ⟨hC, ?_⟩
     have hq := confidantseat_in.calls n9 hS
     refine ED.one 6 4 (bm 19 61439) (by kernel_rfl) (by kernel_rfl) (by kernel_rfl) (EO.callD 20 [ia 1, ia (IntKind.i64.wrap (Int.tmod a1 3))] _ 35 (by kernel_rfl) (by kernel_rfl) (by kernel_rfl) hq ?_)
     rintro v w ⟨rfl, hS⟩
     have hC := hC.again ⟨_, _, hS⟩
     refine ⟨hC, ?_⟩
     have hq := confidantseat_in.calls o0 hS
     refine ED.one 12 3 (bm 19 65535) (by kernel_rfl) (by kernel_rfl) (by kernel_rfl) (EO.callD 20 [ia (b4.getD (Int.tmod a0 6).toNat 0), ia 0] _ 41 (by kernel_rfl) (by kernel_rfl) (by kernel_rfl) hq ?_)
     rintro v w ⟨rfl, hS⟩
     have hC := hC.again ⟨_, _, hS⟩
     refine ⟨hC, ?_⟩
     have hq := confidantseat_in.calls o1 hS
     refine ED.one 16 2 (bm 19 131071) (by kernel_rfl) (by kernel_rfl) (by kernel_rfl) (EO.callD 20 [ia 13, ia (IntKind.i64.wrap (Int.tmod a1 4))] _ 45 (by kernel_rfl) (by kernel_rfl) (by kernel_rfl) hq ?_)
     rintro v w ⟨rfl, hS⟩
     have hC := hC.again ⟨_, _, hS⟩
     refine ⟨hC, ?_⟩
     refine ED.one 17 1 (bm 19 262143) (by kernel_rfl) (by kernel_rfl) (by kernel_rfl) (EO.lit hS kS27 27 25 4 #[(0, ag [ia b5, ib b1]), (1, ag [ia b3, ib a8]), (2, ag [ia a9, ib a6]), (3, ag [ia a7, ib a5])] [ia b5, ib b1, ia b3, ib a8, ia a9, ib a6, ia a7, ib a5] b7 46 (by kernel_rfl) (by kernel_rfl) (by kernel_rfl) (fun _ => (by kernel_rfl)) (by rw [b8]; rfl) (by kernel_rfl) (fun w G hr => (by rw [b8]; exact ⟨[ia b5, ib b1], [ia b3, ib a8, ia a9, ib a6, ia a7, ib a5], rfl, ⟨[ia b5], [ib b1], rfl, rfl, ⟨[ib b1], [], rfl, rfl, rfl⟩⟩, ⟨[ia b3, ib a8], [ia a9, ib a6, ia a7, ib a5], rfl, ⟨[ia b3], [ib a8], rfl, rfl, ⟨[ib a8], [], rfl, rfl, rfl⟩⟩, ⟨[ia a9, ib a6], [ia a7, ib a5], rfl, ⟨[ia a9], [ib a6], rfl, rfl, ⟨[ib a6], [], rfl, rfl, rfl⟩⟩, ⟨[ia a7, ib a5], [], rfl, ⟨[ia a7], [ib a5], rfl, rfl, ⟨[ib a5], [], rfl, rfl, rfl⟩⟩, rfl⟩⟩⟩⟩)) ?_)
     intro u3 w hS
     have hC := hC.again ⟨_, _, hS⟩
     refine ⟨hC, ?_⟩
     refine ED.quick hN hF hC [18] [14] 0 [(14, sv (some ⟨u3, 0, none⟩) 4 b7)] (bm 19 524287) (by kernel_rfl) (by kernel_rfl) ?_
     refine ED.done (by kernel_rfl) ?_
     refine EQ.to ?_
     refine EQ.keep [14] [(14, sv (some ⟨u3, 0, none⟩) 4 b7)] (by kernel_rfl) ?_
     exact fun a ha => ⟨(some ⟨u3, 0, none⟩), 4, (some ⟨j5, 0, none⟩), 6, ha, (hS.re [1, 1] [] rfl (sub_self))⟩
  ·obtain ⟨p2, p3, y8, z0, ha, hS⟩ := hI
   refine EQ.at ?_ a ha
   clear ha a
   refine EQ.code ?_
   refine EW.ret (by kernel_rfl) ?_
   refine EQ.ret ?_
   refine EQ.ret ?_
   obtain rfl := Option.some.inj H
   exact EQ.leave (sv p2 p3 b7) (by kernel_rfl) ⟨_, rfl, p2, p3, rfl, (hS.re [0] [1] rfl (sub_self))⟩
 rw [if_neg x1] at H
 refine EW.sq (by kernel_rfl) ?_
 refine EW.rg (by kernel_rfl) ?_
 refine EL.quick 2 [1, 2, 5, 6, 15, 16, 26, 47] [(1, ig a0), (2, ig a1), (5, ia a3), (6, .bool (b0)), (15, ia (Int.tmod (IntKind.i64.wrap a0) a4)), (16, ia (Int.tmod (IntKind.i64.wrap a1) b6)), (26, ig (Int.tmod a2 16)), (47, .bool (decide ((Int.tmod a2 16) = 1)))] (by kernel_rfl) ?_
 refine EL.done (by kernel_rfl) ?_
 refine EQ.code ?_
 refine EW.cdP ((Int.tmod a2 16) = 1) (by kernel_rfl) (by kernel_rfl) (fun x2 => ?_) (fun x2 => ?_)
 ·rw [if_pos x2] at H
  refine EW.sq (by kernel_rfl) ?_
  refine EW.rg (by kernel_rfl) ?_
  refine EL.quick 1 [1, 2, 16, 49] [(1, ig a0), (2, ig a1), (16, ia (Int.tmod (IntKind.i64.wrap a1) b6)), (49, ia (Int.tmod (IntKind.i64.wrap a0) a4))] (by kernel_rfl) ?_
  obtain ⟨d0, c1, B0, H⟩ := b2_out H
  have hq := confidantseat_in.calls B0 hS
  refine EL.of (EO.callD 20 [ia 1, ia (Int.tmod (IntKind.i64.wrap a0) a4)] _ 50 (by kernel_rfl) (by kernel_rfl) (by kernel_rfl) hq ?_)
  rintro v w ⟨rfl, hS⟩
  refine EL.quick 3 [1, 16, 50, 53] [(1, ig a0), (16, ia (Int.tmod (IntKind.i64.wrap a1) b6)), (50, ag [ia d0, ib c1]), (53, ia (IntKind.i64.wrap (Int.tmod a1 4)))] (by kernel_rfl) ?_
  obtain ⟨d1, c2, B1, H⟩ := b2_out H
  have hq := confidantseat_in.calls B1 hS
  refine EL.of (EO.callD 20 [ia 12, ia (IntKind.i64.wrap (Int.tmod a1 4))] _ 54 (by kernel_rfl) (by kernel_rfl) (by kernel_rfl) hq ?_)
  rintro v w ⟨rfl, hS⟩
  refine EL.quick 1 [1, 50, 54, 55] [(1, ig a0), (50, ag [ia d0, ib c1]), (54, ag [ia d1, ib c2]), (55, ia (Int.tmod (IntKind.i64.wrap a1) b6))] (by kernel_rfl) ?_
  obtain ⟨d2, c3, B2, H⟩ := b2_out H
  have hq := confidantseat_in.calls B2 hS
  refine EL.of (EO.callD 20 [ia 20, ia (Int.tmod (IntKind.i64.wrap a1) b6)] _ 56 (by kernel_rfl) (by kernel_rfl) (by kernel_rfl) hq ?_)
  rintro v w ⟨rfl, hS⟩
  obtain ⟨c4, b9, B3, H⟩ := b2_out H
  have hq := confidantseat_in.calls B3 hS
  refine EL.of (EO.callD 20 [ia 21, ia 0] _ 57 (by kernel_rfl) (by kernel_rfl) (by kernel_rfl) hq ?_)
  rintro v w ⟨rfl, hS⟩
  refine EL.quick 3 [50, 54, 56, 57, 60] [(50, ag [ia d0, ib c1]), (54, ag [ia d1, ib c2]), (56, ag [ia d2, ib c3]), (57, ag [ia c4, ib b9]), (60, ia (IntKind.i64.wrap (Int.tmod a0 4)))] (by kernel_rfl) ?_
  obtain ⟨c5, c0, B4, H⟩ := b2_out H
  have hq := confidantseat_in.calls B4 hS
  refine EL.of (EO.callD 20 [ia 13, ia (IntKind.i64.wrap (Int.tmod a0 4))] _ 61 (by kernel_rfl) (by kernel_rfl) (by kernel_rfl) hq ?_)
  rintro v w ⟨rfl, hS⟩
  obtain ⟨p5, z1, H⟩ := lt_out H
  refine EL.of (EO.lit hS kS27 27 25 5 #[(0, ag [ia d0, ib c1]), (1, ag [ia d1, ib c2]), (2, ag [ia d2, ib c3]), (3, ag [ia c4, ib b9]), (4, ag [ia c5, ib c0])] [ia d0, ib c1, ia d1, ib c2, ia d2, ib c3, ia c4, ib b9, ia c5, ib c0] p5 62 (by kernel_rfl) (by kernel_rfl) (by kernel_rfl) (fun _ => (by kernel_rfl)) (by rw [z1]; rfl) (by kernel_rfl) (fun w G hr => (by rw [z1]; exact ⟨[ia d0, ib c1], [ia d1, ib c2, ia d2, ib c3, ia c4, ib b9, ia c5, ib c0], rfl, ⟨[ia d0], [ib c1], rfl, rfl, ⟨[ib c1], [], rfl, rfl, rfl⟩⟩, ⟨[ia d1, ib c2], [ia d2, ib c3, ia c4, ib b9, ia c5, ib c0], rfl, ⟨[ia d1], [ib c2], rfl, rfl, ⟨[ib c2], [], rfl, rfl, rfl⟩⟩, ⟨[ia d2, ib c3], [ia c4, ib b9, ia c5, ib c0], rfl, ⟨[ia d2], [ib c3], rfl, rfl, ⟨[ib c3], [], rfl, rfl, rfl⟩⟩, ⟨[ia c4, ib b9], [ia c5, ib c0], rfl, ⟨[ia c4], [ib b9], rfl, rfl, ⟨[ib b9], [], rfl, rfl, rfl⟩⟩, ⟨[ia c5, ib c0], [], rfl, ⟨[ia c5], [ib c0], rfl, rfl, ⟨[ib c0], [], rfl, rfl, rfl⟩⟩, rfl⟩⟩⟩⟩⟩)) ?_)
  intro u4 w hS
  refine EL.quick 1 [14] [(14, sv (some ⟨u4, 0, none⟩) 5 p5)] (by kernel_rfl) ?_
  refine EL.done (by kernel_rfl) ?_
  refine EQ.code ?_
  refine EW.ret (by kernel_rfl) ?_
  refine EQ.ret ?_
  refine EQ.ret ?_
  obtain rfl := Option.some.inj H
  exact EQ.leave (sv (some ⟨u4, 0, none⟩) 5 p5) (by kernel_rfl) ⟨_, rfl, (some ⟨u4, 0, none⟩), 5, rfl, (hS.re [0] [] rfl (sub_self))⟩
 rw [if_neg x2] at H
 refine EW.sq (by kernel_rfl) ?_
 refine EW.rg (by kernel_rfl) ?_
 refine EL.quick 2 [1, 2, 5, 6, 15, 16, 26, 63] [(1, ig a0), (2, ig a1), (5, ia a3), (6, .bool (b0)), (15, ia (Int.tmod (IntKind.i64.wrap a0) a4)), (16, ia (Int.tmod (IntKind.i64.wrap a1) b6)), (26, ig (Int.tmod a2 16)), (63, .bool (decide ((Int.tmod a2 16) = 2)))] (by kernel_rfl) ?_
 refine EL.done (by kernel_rfl) ?_
 refine EQ.code ?_
 refine EW.cdP ((Int.tmod a2 16) = 2) (by kernel_rfl) (by kernel_rfl) (fun x3 => ?_) (fun x3 => ?_)
 ·rw [if_pos x3] at H
  refine EW.sq (by kernel_rfl) ?_
  refine EW.rg (by kernel_rfl) ?_
  refine EL.quick 1 [2, 16, 65] [(2, ig a1), (16, ia (Int.tmod (IntKind.i64.wrap a1) b6)), (65, ia (Int.tmod (IntKind.i64.wrap a0) a4))] (by kernel_rfl) ?_
  obtain ⟨f2, d3, B5, H⟩ := b2_out H
  have hq := confidantseat_in.calls B5 hS
  refine EL.of (EO.callD 20 [ia 1, ia (Int.tmod (IntKind.i64.wrap a0) a4)] _ 66 (by kernel_rfl) (by kernel_rfl) (by kernel_rfl) hq ?_)
  rintro v w ⟨rfl, hS⟩
  refine EL.quick 2 [16, 66, 68] [(16, ia (Int.tmod (IntKind.i64.wrap a1) b6)), (66, ag [ia f2, ib d3]), (68, ia (IntKind.i64.wrap a1))] (by kernel_rfl) ?_
  obtain ⟨f3, d4, B6, H⟩ := b2_out H
  have hq := confidantseat_in.calls B6 hS
  refine EL.of (EO.callD 20 [ia 1, ia (IntKind.i64.wrap a1)] _ 69 (by kernel_rfl) (by kernel_rfl) (by kernel_rfl) hq ?_)
  rintro v w ⟨rfl, hS⟩
  refine EL.quick 1 [66, 69, 70] [(66, ag [ia f2, ib d3]), (69, ag [ia f3, ib d4]), (70, ia (Int.tmod (IntKind.i64.wrap a1) b6))] (by kernel_rfl) ?_
  obtain ⟨f4, d5, B7, H⟩ := b2_out H
  have hq := confidantseat_in.calls B7 hS
  refine EL.of (EO.callD 20 [ia 20, ia (Int.tmod (IntKind.i64.wrap a1) b6)] _ 71 (by kernel_rfl) (by kernel_rfl) (by kernel_rfl) hq ?_)
  rintro v w ⟨rfl, hS⟩
  obtain ⟨d6, c6, B8, H⟩ := b2_out H
  have hq := confidantseat_in.calls B8 hS
  refine EL.of (EO.callD 20 [ia 13, ia 3] _ 72 (by kernel_rfl) (by kernel_rfl) (by kernel_rfl) hq ?_)
  rintro v w ⟨rfl, hS⟩
  obtain ⟨p6, z2, H⟩ := lt_out H
  refine EL.of (EO.lit hS kS27 27 25 4 #[(0, ag [ia f2, ib d3]), (1, ag [ia f3, ib d4]), (2, ag [ia f4, ib d5]), (3, ag [ia d6, ib c6])] [ia f2, ib d3, ia f3, ib d4, ia f4, ib d5, ia d6, ib c6] p6 73 (by kernel_rfl) (by kernel_rfl) (by kernel_rfl) (fun _ => (by kernel_rfl)) (by rw [z2]; rfl) (by kernel_rfl) (fun w G hr => (by rw [z2]; exact ⟨[ia f2, ib d3], [ia f3, ib d4, ia f4, ib d5, ia d6, ib c6], rfl, ⟨[ia f2], [ib d3], rfl, rfl, ⟨[ib d3], [], rfl, rfl, rfl⟩⟩, ⟨[ia f3, ib d4], [ia f4, ib d5, ia d6, ib c6], rfl, ⟨[ia f3], [ib d4], rfl, rfl, ⟨[ib d4], [], rfl, rfl, rfl⟩⟩, ⟨[ia f4, ib d5], [ia d6, ib c6], rfl, ⟨[ia f4], [ib d5], rfl, rfl, ⟨[ib d5], [], rfl, rfl, rfl⟩⟩, ⟨[ia d6, ib c6], [], rfl, ⟨[ia d6], [ib c6], rfl, rfl, ⟨[ib c6], [], rfl, rfl, rfl⟩⟩, rfl⟩⟩⟩⟩)) ?_)
  intro u5 w hS
  refine EL.quick 1 [14] [(14, sv (some ⟨u5, 0, none⟩) 4 p6)] (by kernel_rfl) ?_
  refine EL.done (by kernel_rfl) ?_
  refine EQ.code ?_
  refine EW.ret (by kernel_rfl) ?_
  refine EQ.ret ?_
  refine EQ.ret ?_
  obtain rfl := Option.some.inj H
  exact EQ.leave (sv (some ⟨u5, 0, none⟩) 4 p6) (by kernel_rfl) ⟨_, rfl, (some ⟨u5, 0, none⟩), 4, rfl, (hS.re [0] [] rfl (sub_self))⟩
 rw [if_neg x3] at H
 refine EW.sq (by kernel_rfl) ?_
 refine EW.rg (by kernel_rfl) ?_
 refine EL.quick 2 [1, 2, 5, 6, 15, 26, 74] [(1, ig a0), (2, ig a1), (5, ia a3), (6, .bool (b0)), (15, ia (Int.tmod (IntKind.i64.wrap a0) a4)), (26, ig (Int.tmod a2 16)), (74, .bool (decide ((Int.tmod a2 16) = 3)))] (by kernel_rfl) ?_
 refine EL.done (by kernel_rfl) ?_
 refine EQ.code ?_
 refine EW.cdP ((Int.tmod a2 16) = 3) (by kernel_rfl) (by kernel_rfl) (fun x4 => ?_) (fun x4 => ?_)
 ·rw [if_pos x4] at H
  refine EW.sq (by kernel_rfl) ?_
  refine EW.rg (by kernel_rfl) ?_
  obtain ⟨j6, f5, B9, H⟩ := b2_out H
  have hq := confidantseat_in.calls B9 hS
  refine EL.of (EO.callD 20 [ia 12, ia 3] _ 76 (by kernel_rfl) (by kernel_rfl) (by kernel_rfl) hq ?_)
  rintro v w ⟨rfl, hS⟩
  obtain ⟨f6, d7, C0, H⟩ := b2_out H
  have hq := confidantseat_in.calls C0 hS
  refine EL.of (EO.callD 20 [ia 21, ia 0] _ 77 (by kernel_rfl) (by kernel_rfl) (by kernel_rfl) hq ?_)
  rintro v w ⟨rfl, hS⟩
  refine EL.quick 3 [76, 77, 80] [(76, ag [ia j6, ib f5]), (77, ag [ia f6, ib d7]), (80, ia (IntKind.i64.wrap (Int.tmod a0 4)))] (by kernel_rfl) ?_
  obtain ⟨f7, d8, C1, H⟩ := b2_out H
  have hq := confidantseat_in.calls C1 hS
  refine EL.of (EO.callD 20 [ia 13, ia (IntKind.i64.wrap (Int.tmod a0 4))] _ 81 (by kernel_rfl) (by kernel_rfl) (by kernel_rfl) hq ?_)
  rintro v w ⟨rfl, hS⟩
  obtain ⟨p7, z3, H⟩ := lt_out H
  refine EL.of (EO.lit hS kS27 27 25 3 #[(0, ag [ia j6, ib f5]), (1, ag [ia f6, ib d7]), (2, ag [ia f7, ib d8])] [ia j6, ib f5, ia f6, ib d7, ia f7, ib d8] p7 82 (by kernel_rfl) (by kernel_rfl) (by kernel_rfl) (fun _ => (by kernel_rfl)) (by rw [z3]; rfl) (by kernel_rfl) (fun w G hr => (by rw [z3]; exact ⟨[ia j6, ib f5], [ia f6, ib d7, ia f7, ib d8], rfl, ⟨[ia j6], [ib f5], rfl, rfl, ⟨[ib f5], [], rfl, rfl, rfl⟩⟩, ⟨[ia f6, ib d7], [ia f7, ib d8], rfl, ⟨[ia f6], [ib d7], rfl, rfl, ⟨[ib d7], [], rfl, rfl, rfl⟩⟩, ⟨[ia f7, ib d8], [], rfl, ⟨[ia f7], [ib d8], rfl, rfl, ⟨[ib d8], [], rfl, rfl, rfl⟩⟩, rfl⟩⟩⟩)) ?_)
  intro u6 w hS
  refine EL.quick 1 [14] [(14, sv (some ⟨u6, 0, none⟩) 3 p7)] (by kernel_rfl) ?_
  refine EL.done (by kernel_rfl) ?_
  refine EQ.code ?_
  refine EW.ret (by kernel_rfl) ?_
  refine EQ.ret ?_
  refine EQ.ret ?_
  obtain rfl := Option.some.inj H
  exact EQ.leave (sv (some ⟨u6, 0, none⟩) 3 p7) (by kernel_rfl) ⟨_, rfl, (some ⟨u6, 0, none⟩), 3, rfl, (hS.re [0] [] rfl (sub_self))⟩
 rw [if_neg x4] at H
 refine EW.sq (by kernel_rfl) ?_
 refine EW.rg (by kernel_rfl) ?_
 refine EL.quick 2 [1, 2, 5, 6, 15, 26, 83] [(1, ig a0), (2, ig a1), (5, ia a3), (6, .bool (b0)), (15, ia (Int.tmod (IntKind.i64.wrap a0) a4)), (26, ig (Int.tmod a2 16)), (83, .bool (decide ((Int.tmod a2 16) = 4)))] (by kernel_rfl) ?_
 refine EL.done (by kernel_rfl) ?_
 refine EQ.code ?_
 refine EW.cdP ((Int.tmod a2 16) = 4) (by kernel_rfl) (by kernel_rfl) (fun x5 => ?_) (fun x5 => ?_)
 ·rw [if_pos x5] at H
  refine EW.sq (by kernel_rfl) ?_
  refine EW.rg (by kernel_rfl) ?_
  refine EL.quick 3 [1, 15, 87] [(1, ig a0), (15, ia (Int.tmod (IntKind.i64.wrap a0) a4)), (87, ia (IntKind.i64.wrap (Int.tmod a1 4)))] (by kernel_rfl) ?_
  obtain ⟨f8, d9, C2, H⟩ := b2_out H
  have hq := confidantseat_in.calls C2 hS
  refine EL.of (EO.callD 20 [ia 1, ia (IntKind.i64.wrap (Int.tmod a1 4))] _ 88 (by kernel_rfl) (by kernel_rfl) (by kernel_rfl) hq ?_)
  rintro v w ⟨rfl, hS⟩
  refine EL.quick 1 [1, 88, 89] [(1, ig a0), (88, ag [ia f8, ib d9]), (89, ia (Int.tmod (IntKind.i64.wrap a0) a4))] (by kernel_rfl) ?_
  obtain ⟨f9, e0, C3, H⟩ := b2_out H
  have hq := confidantseat_in.calls C3 hS
  refine EL.of (EO.callD 20 [ia 16, ia (Int.tmod (IntKind.i64.wrap a0) a4)] _ 90 (by kernel_rfl) (by kernel_rfl) (by kernel_rfl) hq ?_)
  rintro v w ⟨rfl, hS⟩
  refine EL.quick 3 [88, 90, 93] [(88, ag [ia f8, ib d9]), (90, ag [ia f9, ib e0]), (93, ia (IntKind.i64.wrap (Int.tmod a0 3)))] (by kernel_rfl) ?_
  obtain ⟨g0, e1, C4, H⟩ := b2_out H
  have hq := confidantseat_in.calls C4 hS
  refine EL.of (EO.callD 20 [ia 13, ia (IntKind.i64.wrap (Int.tmod a0 3))] _ 94 (by kernel_rfl) (by kernel_rfl) (by kernel_rfl) hq ?_)
  rintro v w ⟨rfl, hS⟩
  obtain ⟨p8, z4, H⟩ := lt_out H
  refine EL.of (EO.lit hS kS27 27 25 3 #[(0, ag [ia f8, ib d9]), (1, ag [ia f9, ib e0]), (2, ag [ia g0, ib e1])] [ia f8, ib d9, ia f9, ib e0, ia g0, ib e1] p8 95 (by kernel_rfl) (by kernel_rfl) (by kernel_rfl) (fun _ => (by kernel_rfl)) (by rw [z4]; rfl) (by kernel_rfl) (fun w G hr => (by rw [z4]; exact ⟨[ia f8, ib d9], [ia f9, ib e0, ia g0, ib e1], rfl, ⟨[ia f8], [ib d9], rfl, rfl, ⟨[ib d9], [], rfl, rfl, rfl⟩⟩, ⟨[ia f9, ib e0], [ia g0, ib e1], rfl, ⟨[ia f9], [ib e0], rfl, rfl, ⟨[ib e0], [], rfl, rfl, rfl⟩⟩, ⟨[ia g0, ib e1], [], rfl, ⟨[ia g0], [ib e1], rfl, rfl, ⟨[ib e1], [], rfl, rfl, rfl⟩⟩, rfl⟩⟩⟩)) ?_)
  intro u7 w hS
  refine EL.quick 1 [14] [(14, sv (some ⟨u7, 0, none⟩) 3 p8)] (by kernel_rfl) ?_
  refine EL.done (by kernel_rfl) ?_
  refine EQ.code ?_
  refine EW.ret (by kernel_rfl) ?_
  refine EQ.ret ?_
  refine EQ.ret ?_
  obtain rfl := Option.some.inj H
  exact EQ.leave (sv (some ⟨u7, 0, none⟩) 3 p8) (by kernel_rfl) ⟨_, rfl, (some ⟨u7, 0, none⟩), 3, rfl, (hS.re [0] [] rfl (sub_self))⟩
 rw [if_neg x5] at H
 refine EW.sq (by kernel_rfl) ?_
 refine EW.rg (by kernel_rfl) ?_
 refine EL.quick 2 [1, 2, 5, 6, 15, 26, 96] [(1, ig a0), (2, ig a1), (5, ia a3), (6, .bool (b0)), (15, ia (Int.tmod (IntKind.i64.wrap a0) a4)), (26, ig (Int.tmod a2 16)), (96, .bool (decide ((Int.tmod a2 16) = 5)))] (by kernel_rfl) ?_
 refine EL.done (by kernel_rfl) ?_
 refine EQ.code ?_
 refine EW.cdP ((Int.tmod a2 16) = 5) (by kernel_rfl) (by kernel_rfl) (fun x6 => ?_) (fun x6 => ?_)
 ·rw [if_pos x6] at H
  refine EW.sq (by kernel_rfl) ?_
  refine EW.rg (by kernel_rfl) ?_
  refine EL.quick 3 [15, 100] [(15, ia (Int.tmod (IntKind.i64.wrap a0) a4)), (100, ia (IntKind.i64.wrap (Int.tmod a0 4)))] (by kernel_rfl) ?_
  obtain ⟨j7, g1, C5, H⟩ := b2_out H
  have hq := confidantseat_in.calls C5 hS
  refine EL.of (EO.callD 20 [ia 12, ia (IntKind.i64.wrap (Int.tmod a0 4))] _ 101 (by kernel_rfl) (by kernel_rfl) (by kernel_rfl) hq ?_)
  rintro v w ⟨rfl, hS⟩
  refine EL.quick 1 [101, 102] [(101, ag [ia j7, ib g1]), (102, ia (Int.tmod (IntKind.i64.wrap a0) a4))] (by kernel_rfl) ?_
  obtain ⟨j8, g2, C6, H⟩ := b2_out H
  have hq := confidantseat_in.calls C6 hS
  refine EL.of (EO.callD 20 [ia 17, ia (Int.tmod (IntKind.i64.wrap a0) a4)] _ 103 (by kernel_rfl) (by kernel_rfl) (by kernel_rfl) hq ?_)
  rintro v w ⟨rfl, hS⟩
  obtain ⟨g3, e2, C7, H⟩ := b2_out H
  have hq := confidantseat_in.calls C7 hS
  refine EL.of (EO.callD 20 [ia 13, ia 2] _ 104 (by kernel_rfl) (by kernel_rfl) (by kernel_rfl) hq ?_)
  rintro v w ⟨rfl, hS⟩
  obtain ⟨p9, z5, H⟩ := lt_out H
  refine EL.of (EO.lit hS kS27 27 25 3 #[(0, ag [ia j7, ib g1]), (1, ag [ia j8, ib g2]), (2, ag [ia g3, ib e2])] [ia j7, ib g1, ia j8, ib g2, ia g3, ib e2] p9 105 (by kernel_rfl) (by kernel_rfl) (by kernel_rfl) (fun _ => (by kernel_rfl)) (by rw [z5]; rfl) (by kernel_rfl) (fun w G hr => (by rw [z5]; exact ⟨[ia j7, ib g1], [ia j8, ib g2, ia g3, ib e2], rfl, ⟨[ia j7], [ib g1], rfl, rfl, ⟨[ib g1], [], rfl, rfl, rfl⟩⟩, ⟨[ia j8, ib g2], [ia g3, ib e2], rfl, ⟨[ia j8], [ib g2], rfl, rfl, ⟨[ib g2], [], rfl, rfl, rfl⟩⟩, ⟨[ia g3, ib e2], [], rfl, ⟨[ia g3], [ib e2], rfl, rfl, ⟨[ib e2], [], rfl, rfl, rfl⟩⟩, rfl⟩⟩⟩)) ?_)
  intro u9 w hS
  refine EL.quick 1 [14] [(14, sv (some ⟨u9, 0, none⟩) 3 p9)] (by kernel_rfl) ?_
  refine EL.done (by kernel_rfl) ?_
  refine EQ.code ?_
  refine EW.ret (by kernel_rfl) ?_
  refine EQ.ret ?_
  refine EQ.ret ?_
  obtain rfl := Option.some.inj H
  exact EQ.leave (sv (some ⟨u9, 0, none⟩) 3 p9) (by kernel_rfl) ⟨_, rfl, (some ⟨u9, 0, none⟩), 3, rfl, (hS.re [0] [] rfl (sub_self))⟩
 rw [if_neg x6] at H
 refine EW.sq (by kernel_rfl) ?_
 refine EW.rg (by kernel_rfl) ?_
 refine EL.quick 2 [1, 2, 5, 6, 15, 26, 106] [(1, ig a0), (2, ig a1), (5, ia a3), (6, .bool (b0)), (15, ia (Int.tmod (IntKind.i64.wrap a0) a4)), (26, ig (Int.tmod a2 16)), (106, .bool (decide ((Int.tmod a2 16) = 6)))] (by kernel_rfl) ?_
 refine EL.done (by kernel_rfl) ?_
 refine EQ.code ?_
 refine EW.cdP ((Int.tmod a2 16) = 6) (by kernel_rfl) (by kernel_rfl) (fun x7 => ?_) (fun x7 => ?_)
 ·rw [if_pos x7] at H
  refine EW.sq (by kernel_rfl) ?_
  refine EW.rg (by kernel_rfl) ?_
  obtain ⟨j9, g4, C8, H⟩ := b2_out H
  have hq := confidantseat_in.calls C8 hS
  refine EL.of (EO.callD 20 [ia 12, ia 2] _ 108 (by kernel_rfl) (by kernel_rfl) (by kernel_rfl) hq ?_)
  rintro v w ⟨rfl, hS⟩
  obtain ⟨g5, e3, C9, H⟩ := b2_out H
  have hq := confidantseat_in.calls C9 hS
  refine EL.of (EO.callD 20 [ia 18, ia 0] _ 109 (by kernel_rfl) (by kernel_rfl) (by kernel_rfl) hq ?_)
  rintro v w ⟨rfl, hS⟩
  refine EL.quick 3 [108, 109, 112] [(108, ag [ia j9, ib g4]), (109, ag [ia g5, ib e3]), (112, ia (IntKind.i64.wrap (Int.tmod a1 4)))] (by kernel_rfl) ?_
  obtain ⟨g6, e4, D0, H⟩ := b2_out H
  have hq := confidantseat_in.calls D0 hS
  refine EL.of (EO.callD 20 [ia 13, ia (IntKind.i64.wrap (Int.tmod a1 4))] _ 113 (by kernel_rfl) (by kernel_rfl) (by kernel_rfl) hq ?_)
  rintro v w ⟨rfl, hS⟩
  obtain ⟨q0, z6, H⟩ := lt_out H
  refine EL.of (EO.lit hS kS27 27 25 3 #[(0, ag [ia j9, ib g4]), (1, ag [ia g5, ib e3]), (2, ag [ia g6, ib e4])] [ia j9, ib g4, ia g5, ib e3, ia g6, ib e4] q0 114 (by kernel_rfl) (by kernel_rfl) (by kernel_rfl) (fun _ => (by kernel_rfl)) (by rw [z6]; rfl) (by kernel_rfl) (fun w G hr => (by rw [z6]; exact ⟨[ia j9, ib g4], [ia g5, ib e3, ia g6, ib e4], rfl, ⟨[ia j9], [ib g4], rfl, rfl, ⟨[ib g4], [], rfl, rfl, rfl⟩⟩, ⟨[ia g5, ib e3], [ia g6, ib e4], rfl, ⟨[ia g5], [ib e3], rfl, rfl, ⟨[ib e3], [], rfl, rfl, rfl⟩⟩, ⟨[ia g6, ib e4], [], rfl, ⟨[ia g6], [ib e4], rfl, rfl, ⟨[ib e4], [], rfl, rfl, rfl⟩⟩, rfl⟩⟩⟩)) ?_)
  intro v0 w hS
  refine EL.quick 1 [14] [(14, sv (some ⟨v0, 0, none⟩) 3 q0)] (by kernel_rfl) ?_
  refine EL.done (by kernel_rfl) ?_
  refine EQ.code ?_
  refine EW.ret (by kernel_rfl) ?_
  refine EQ.ret ?_
  refine EQ.ret ?_
  obtain rfl := Option.some.inj H
  exact EQ.leave (sv (some ⟨v0, 0, none⟩) 3 q0) (by kernel_rfl) ⟨_, rfl, (some ⟨v0, 0, none⟩), 3, rfl, (hS.re [0] [] rfl (sub_self))⟩
 rw [if_neg x7] at H
 refine EW.sq (by kernel_rfl) ?_
 refine EW.rg (by kernel_rfl) ?_
 refine EL.quick 2 [1, 2, 5, 6, 15, 26, 115] [(1, ig a0), (2, ig a1), (5, ia a3), (6, .bool (b0)), (15, ia (Int.tmod (IntKind.i64.wrap a0) a4)), (26, ig (Int.tmod a2 16)), (115, .bool (decide ((Int.tmod a2 16) = 7)))] (by kernel_rfl) ?_
 refine EL.done (by kernel_rfl) ?_
 refine EQ.code ?_
 refine EW.cdP ((Int.tmod a2 16) = 7) (by kernel_rfl) (by kernel_rfl) (fun x8 => ?_) (fun x8 => ?_)
 ·rw [if_pos x8] at H
  refine EW.sq (by kernel_rfl) ?_
  refine EW.rg (by kernel_rfl) ?_
  obtain ⟨m0, g7, D1, H⟩ := b2_out H
  have hq := confidantseat_in.calls D1 hS
  refine EL.of (EO.callD 20 [ia 12, ia 2] _ 117 (by kernel_rfl) (by kernel_rfl) (by kernel_rfl) hq ?_)
  rintro v w ⟨rfl, hS⟩
  refine EL.quick 3 [117, 120] [(117, ag [ia m0, ib g7]), (120, ia (IntKind.i64.wrap (Int.tmod a1 4)))] (by kernel_rfl) ?_
  obtain ⟨m1, g8, D2, H⟩ := b2_out H
  have hq := confidantseat_in.calls D2 hS
  refine EL.of (EO.callD 20 [ia 12, ia (IntKind.i64.wrap (Int.tmod a1 4))] _ 121 (by kernel_rfl) (by kernel_rfl) (by kernel_rfl) hq ?_)
  rintro v w ⟨rfl, hS⟩
  obtain ⟨g9, e5, D3, H⟩ := b2_out H
  have hq := confidantseat_in.calls D3 hS
  refine EL.of (EO.callD 20 [ia 19, ia 0] _ 122 (by kernel_rfl) (by kernel_rfl) (by kernel_rfl) hq ?_)
  rintro v w ⟨rfl, hS⟩
  obtain ⟨q1, z7, H⟩ := lt_out H
  refine EL.of (EO.lit hS kS27 27 25 3 #[(0, ag [ia m0, ib g7]), (1, ag [ia m1, ib g8]), (2, ag [ia g9, ib e5])] [ia m0, ib g7, ia m1, ib g8, ia g9, ib e5] q1 123 (by kernel_rfl) (by kernel_rfl) (by kernel_rfl) (fun _ => (by kernel_rfl)) (by rw [z7]; rfl) (by kernel_rfl) (fun w G hr => (by rw [z7]; exact ⟨[ia m0, ib g7], [ia m1, ib g8, ia g9, ib e5], rfl, ⟨[ia m0], [ib g7], rfl, rfl, ⟨[ib g7], [], rfl, rfl, rfl⟩⟩, ⟨[ia m1, ib g8], [ia g9, ib e5], rfl, ⟨[ia m1], [ib g8], rfl, rfl, ⟨[ib g8], [], rfl, rfl, rfl⟩⟩, ⟨[ia g9, ib e5], [], rfl, ⟨[ia g9], [ib e5], rfl, rfl, ⟨[ib e5], [], rfl, rfl, rfl⟩⟩, rfl⟩⟩⟩)) ?_)
  intro v1 w hS
  refine EL.quick 1 [14] [(14, sv (some ⟨v1, 0, none⟩) 3 q1)] (by kernel_rfl) ?_
  refine EL.done (by kernel_rfl) ?_
  refine EQ.code ?_
  refine EW.ret (by kernel_rfl) ?_
  refine EQ.ret ?_
  refine EQ.ret ?_
  obtain rfl := Option.some.inj H
  exact EQ.leave (sv (some ⟨v1, 0, none⟩) 3 q1) (by kernel_rfl) ⟨_, rfl, (some ⟨v1, 0, none⟩), 3, rfl, (hS.re [0] [] rfl (sub_self))⟩
 rw [if_neg x8] at H
 obtain ⟨t5, F7, H⟩ := lt_out H
 refine EW.ct (fun a w => ∃ p0 : Bool, Sat 214 [(1, ig a0), (2, ig a1), (5, ia a3), (6, .bool (b0)), (15, ia (Int.tmod (IntKind.i64.wrap a0) a4)), (26, ig (Int.tmod a2 16)), (124, .bool (p0))] a ∧ St B w (os) (rs) ∧ t5 p0 = some t1) (by kernel_rfl) ?_ (fun a w hI => ?_)
 ·refine EW.sq (by kernel_rfl) ?_
  refine EW.rg (by kernel_rfl) ?_
  refine EL.quick 2 [1, 2, 5, 6, 15, 26, 124] [(1, ig a0), (2, ig a1), (5, ia a3), (6, .bool (b0)), (15, ia (Int.tmod (IntKind.i64.wrap a0) a4)), (26, ig (Int.tmod a2 16)), (124, .bool (decide ((Int.tmod a2 16) = 8)))] (by kernel_rfl) ?_
  refine EL.done (by kernel_rfl) ?_
  refine EQ.code ?_
  refine EW.cdP ((Int.tmod a2 16) = 8) (by kernel_rfl) (by kernel_rfl) (fun t2 => ?_) (fun t2 => ?_)
  ·rw [if_pos t2] at H
   refine EW.keep [1, 2, 5, 6, 15, 26, 124] [(1, ig a0), (2, ig a1), (5, ia a3), (6, .bool (b0)), (15, ia (Int.tmod (IntKind.i64.wrap a0) a4)), (26, ig (Int.tmod a2 16)), (124, .bool (decide ((Int.tmod a2 16) = 8)))] (by kernel_rfl) ?_
   refine EW.as' [(1, ig a0), (2, ig a1), (5, ia a3), (6, .bool (b0)), (15, ia (Int.tmod (IntKind.i64.wrap a0) a4)), (26, ig (Int.tmod a2 16)), (124, .bool (true))] (by simp only [sv, dec_t t2, Bool.not_true, Bool.not_false]) ?_
   refine EW.skip (by kernel_rfl) ?_
   refine EQ.to ?_
   refine EQ.keep [1, 2, 5, 6, 15, 26, 124] [(1, ig a0), (2, ig a1), (5, ia a3), (6, .bool (b0)), (15, ia (Int.tmod (IntKind.i64.wrap a0) a4)), (26, ig (Int.tmod a2 16)), (124, .bool (true))] (by kernel_rfl) ?_
   exact fun a ha => ⟨true, ha, (hS.re [] [] rfl (sub_self)), H⟩
  rw [if_neg t2] at H
  refine EW.rg (by kernel_rfl) ?_
  refine EL.quick 2 [1, 2, 5, 6, 15, 26, 124] [(1, ig a0), (2, ig a1), (5, ia a3), (6, .bool (b0)), (15, ia (Int.tmod (IntKind.i64.wrap a0) a4)), (26, ig (Int.tmod a2 16)), (124, .bool (decide ((Int.tmod a2 16) = 9)))] (by kernel_rfl) ?_
  refine EL.done (by kernel_rfl) ?_
  refine EQ.to ?_
  refine EQ.keep [1, 2, 5, 6, 15, 26, 124] [(1, ig a0), (2, ig a1), (5, ia a3), (6, .bool (b0)), (15, ia (Int.tmod (IntKind.i64.wrap a0) a4)), (26, ig (Int.tmod a2 16)), (124, .bool (decide ((Int.tmod a2 16) = 9)))] (by kernel_rfl) ?_
  exact fun a ha => ⟨decide ((Int.tmod a2 16) = 9), ha, (hS.re [] [] rfl (sub_self)), H⟩
 obtain ⟨p0, ha, hS, H⟩ := hI
 rw [F7] at H
 (try dsimp only at H)
 refine EW.at ?_ a ha
 clear ha a
 refine EW.cdP' (p0) (by kernel_rfl) (by kernel_rfl) (fun x9 => ?_) (fun x9 => ?_)
 ·rw [if_pos x9] at H
  refine EW.sq (by kernel_rfl) ?_
  refine EW.rg (by kernel_rfl) ?_
  refine EL.quick 3 [15, 129] [(15, ia (Int.tmod (IntKind.i64.wrap a0) a4)), (129, ia (IntKind.i64.wrap (Int.tmod a1 4)))] (by kernel_rfl) ?_
  obtain ⟨m2, i0, D4, H⟩ := b2_out H
  have hq := confidantseat_in.calls D4 hS
  refine EL.of (EO.callD 20 [ia 12, ia (IntKind.i64.wrap (Int.tmod a1 4))] _ 130 (by kernel_rfl) (by kernel_rfl) (by kernel_rfl) hq ?_)
  rintro v w ⟨rfl, hS⟩
  refine EL.quick 1 [130, 131] [(130, ag [ia m2, ib i0]), (131, ia (Int.tmod (IntKind.i64.wrap a0) a4))] (by kernel_rfl) ?_
  obtain ⟨m3, i1, D5, H⟩ := b2_out H
  have hq := confidantseat_in.calls D5 hS
  refine EL.of (EO.callD 20 [ia 22, ia (Int.tmod (IntKind.i64.wrap a0) a4)] _ 132 (by kernel_rfl) (by kernel_rfl) (by kernel_rfl) hq ?_)
  rintro v w ⟨rfl, hS⟩
  obtain ⟨q2, z8, H⟩ := lt_out H
  refine EL.of (EO.lit hS kS27 27 25 2 #[(0, ag [ia m2, ib i0]), (1, ag [ia m3, ib i1])] [ia m2, ib i0, ia m3, ib i1] q2 133 (by kernel_rfl) (by kernel_rfl) (by kernel_rfl) (fun _ => (by kernel_rfl)) (by rw [z8]; rfl) (by kernel_rfl) (fun w G hr => (by rw [z8]; exact ⟨[ia m2, ib i0], [ia m3, ib i1], rfl, ⟨[ia m2], [ib i0], rfl, rfl, ⟨[ib i0], [], rfl, rfl, rfl⟩⟩, ⟨[ia m3, ib i1], [], rfl, ⟨[ia m3], [ib i1], rfl, rfl, ⟨[ib i1], [], rfl, rfl, rfl⟩⟩, rfl⟩⟩)) ?_)
  intro v2 w hS
  refine EL.quick 1 [14] [(14, sv (some ⟨v2, 0, none⟩) 2 q2)] (by kernel_rfl) ?_
  refine EL.done (by kernel_rfl) ?_
  refine EQ.code ?_
  refine EW.ret (by kernel_rfl) ?_
  refine EQ.ret ?_
  refine EQ.ret ?_
  obtain rfl := Option.some.inj H
  exact EQ.leave (sv (some ⟨v2, 0, none⟩) 2 q2) (by kernel_rfl) ⟨_, rfl, (some ⟨v2, 0, none⟩), 2, rfl, (hS.re [0] [] rfl (sub_self))⟩
 rw [if_neg x9] at H
 refine EW.sq (by kernel_rfl) ?_
 refine EW.rg (by kernel_rfl) ?_
 refine EL.quick 2 [1, 2, 5, 6, 15, 26, 134] [(1, ig a0), (2, ig a1), (5, ia a3), (6, .bool (b0)), (15, ia (Int.tmod (IntKind.i64.wrap a0) a4)), (26, ig (Int.tmod a2 16)), (134, .bool (decide ((Int.tmod a2 16) = 10)))] (by kernel_rfl) ?_
 refine EL.done (by kernel_rfl) ?_
 refine EQ.code ?_
 refine EW.cdP ((Int.tmod a2 16) = 10) (by kernel_rfl) (by kernel_rfl) (fun y0 => ?_) (fun y0 => ?_)
 ·rw [if_pos y0] at H
  refine EW.sq (by kernel_rfl) ?_
  refine EW.rg (by kernel_rfl) ?_
  refine EL.quick 1 [136] [(136, ia (Int.tmod (IntKind.i64.wrap a0) a4))] (by kernel_rfl) ?_
  obtain ⟨o3, m4, D6, H⟩ := b2_out H
  have hq := confidantseat_in.calls D6 hS
  refine EL.of (EO.callD 20 [ia 15, ia (Int.tmod (IntKind.i64.wrap a0) a4)] _ 137 (by kernel_rfl) (by kernel_rfl) (by kernel_rfl) hq ?_)
  rintro v w ⟨rfl, hS⟩
  obtain ⟨q3, z9, H⟩ := lt_out H
  refine EL.of (EO.lit hS kS27 27 25 1 #[(0, ag [ia o3, ib m4])] [ia o3, ib m4] q3 138 (by kernel_rfl) (by kernel_rfl) (by kernel_rfl) (fun _ => (by kernel_rfl)) (by rw [z9]; rfl) (by kernel_rfl) (fun w G hr => (by rw [z9]; exact ⟨[ia o3, ib m4], [], rfl, ⟨[ia o3], [ib m4], rfl, rfl, ⟨[ib m4], [], rfl, rfl, rfl⟩⟩, rfl⟩)) ?_)
  intro v3 w hS
  refine EL.quick 1 [14] [(14, sv (some ⟨v3, 0, none⟩) 1 q3)] (by kernel_rfl) ?_
  refine EL.done (by kernel_rfl) ?_
  refine EQ.code ?_
  refine EW.ret (by kernel_rfl) ?_
  refine EQ.ret ?_
  refine EQ.ret ?_
  obtain rfl := Option.some.inj H
  exact EQ.leave (sv (some ⟨v3, 0, none⟩) 1 q3) (by kernel_rfl) ⟨_, rfl, (some ⟨v3, 0, none⟩), 1, rfl, (hS.re [0] [] rfl (sub_self))⟩
 rw [if_neg y0] at H
 refine EW.sq (by kernel_rfl) ?_
 refine EW.rg (by kernel_rfl) ?_
 refine EL.quick 2 [1, 2, 5, 6, 15, 26, 139] [(1, ig a0), (2, ig a1), (5, ia a3), (6, .bool (b0)), (15, ia (Int.tmod (IntKind.i64.wrap a0) a4)), (26, ig (Int.tmod a2 16)), (139, .bool (decide ((Int.tmod a2 16) = 11)))] (by kernel_rfl) ?_
 refine EL.done (by kernel_rfl) ?_
 refine EQ.code ?_
 refine EW.cdP ((Int.tmod a2 16) = 11) (by kernel_rfl) (by kernel_rfl) (fun y1 => ?_) (fun y1 => ?_)
 ·rw [if_pos y1] at H
  refine EW.sq (by kernel_rfl) ?_
  refine EW.rg (by kernel_rfl) ?_
  obtain ⟨m5, i2, D7, H⟩ := b2_out H
  have hq := confidantseat_in.calls D7 hS
  refine EL.of (EO.callD 20 [ia 14, ia 0] _ 141 (by kernel_rfl) (by kernel_rfl) (by kernel_rfl) hq ?_)
  rintro v w ⟨rfl, hS⟩
  refine EL.quick 1 [141, 142] [(141, ag [ia m5, ib i2]), (142, ia (Int.tmod (IntKind.i64.wrap a0) a4))] (by kernel_rfl) ?_
  obtain ⟨m6, i3, D8, H⟩ := b2_out H
  have hq := confidantseat_in.calls D8 hS
  refine EL.of (EO.callD 20 [ia 22, ia (Int.tmod (IntKind.i64.wrap a0) a4)] _ 143 (by kernel_rfl) (by kernel_rfl) (by kernel_rfl) hq ?_)
  rintro v w ⟨rfl, hS⟩
  obtain ⟨q4, A0, H⟩ := lt_out H
  refine EL.of (EO.lit hS kS27 27 25 2 #[(0, ag [ia m5, ib i2]), (1, ag [ia m6, ib i3])] [ia m5, ib i2, ia m6, ib i3] q4 144 (by kernel_rfl) (by kernel_rfl) (by kernel_rfl) (fun _ => (by kernel_rfl)) (by rw [A0]; rfl) (by kernel_rfl) (fun w G hr => (by rw [A0]; exact ⟨[ia m5, ib i2], [ia m6, ib i3], rfl, ⟨[ia m5], [ib i2], rfl, rfl, ⟨[ib i2], [], rfl, rfl, rfl⟩⟩, ⟨[ia m6, ib i3], [], rfl, ⟨[ia m6], [ib i3], rfl, rfl, ⟨[ib i3], [], rfl, rfl, rfl⟩⟩, rfl⟩⟩)) ?_)
  intro v4 w hS
  refine EL.quick 1 [14] [(14, sv (some ⟨v4, 0, none⟩) 2 q4)] (by kernel_rfl) ?_
  refine EL.done (by kernel_rfl) ?_
  refine EQ.code ?_
  refine EW.ret (by kernel_rfl) ?_
  refine EQ.ret ?_
  refine EQ.ret ?_
  obtain rfl := Option.some.inj H
  exact EQ.leave (sv (some ⟨v4, 0, none⟩) 2 q4) (by kernel_rfl) ⟨_, rfl, (some ⟨v4, 0, none⟩), 2, rfl, (hS.re [0] [] rfl (sub_self))⟩
 rw [if_neg y1] at H
 refine EW.sq (by kernel_rfl) ?_
 refine EW.rg (by kernel_rfl) ?_
 refine EL.quick 2 [1, 2, 5, 6, 26, 145] [(1, ig a0), (2, ig a1), (5, ia a3), (6, .bool (b0)), (26, ig (Int.tmod a2 16)), (145, .bool (decide ((Int.tmod a2 16) = 12)))] (by kernel_rfl) ?_
 refine EL.done (by kernel_rfl) ?_
 refine EQ.code ?_
 refine EW.cdP ((Int.tmod a2 16) = 12) (by kernel_rfl) (by kernel_rfl) (fun y2 => ?_) (fun y2 => ?_)
 ·rw [if_pos y2] at H
  refine EW.sq (by kernel_rfl) ?_
  obtain ⟨t6, F8, H⟩ := lt_out H
  refine EW.ct (fun a w => ∃ p1 : Bool, Sat 214 [(1, ig a0), (2, ig a1), (5, ia a3), (151, .bool (p1))] a ∧ St B w (os) (rs) ∧ t6 p1 = some t1) (by kernel_rfl) ?_ (fun a w hI => ?_)
  ·refine EW.rg (by kernel_rfl) ?_
   refine EL.quick 3 [1, 2, 5, 6, 149] [(1, ig a0), (2, ig a1), (5, ia a3), (6, .bool (b0)), (149, .bool (decide (a3 = 0)))] (by kernel_rfl) ?_
   by_cases t3 : a3 = 0
   ·rw [if_pos t3] at H
    refine EL.keep [1, 2, 5, 6, 149] [(1, ig a0), (2, ig a1), (5, ia a3), (6, .bool (b0)), (149, .bool (decide (a3 = 0)))] (by kernel_rfl) ?_
    refine EL.as' [(1, ig a0), (2, ig a1), (5, ia a3), (6, .bool (b0)), (149, .bool (true))] (by simp only [sv, dec_t t3, Bool.not_true, Bool.not_false]) ?_
    refine EL.quick 2 [1, 2, 5, 151] [(1, ig a0), (2, ig a1), (5, ia a3), (151, .bool (true))] (by kernel_rfl) ?_
    refine EL.done (by kernel_rfl) ?_
    refine EQ.to ?_
    refine EQ.keep [1, 2, 5, 151] [(1, ig a0), (2, ig a1), (5, ia a3), (151, .bool (true))] (by kernel_rfl) ?_
    exact fun a ha => ⟨true, ha, (hS.re [] [] rfl (sub_self)), H⟩
   rw [if_neg t3] at H
   refine EL.keep [1, 2, 5, 6, 149] [(1, ig a0), (2, ig a1), (5, ia a3), (6, .bool (b0)), (149, .bool (decide (a3 = 0)))] (by kernel_rfl) ?_
   refine EL.as' [(1, ig a0), (2, ig a1), (5, ia a3), (6, .bool (b0)), (149, .bool (false))] (by simp only [sv, dec_f t3, Bool.not_true, Bool.not_false]) ?_
   refine EL.quick 2 [1, 2, 5, 151] [(1, ig a0), (2, ig a1), (5, ia a3), (151, .bool (b0))] (by kernel_rfl) ?_
   refine EL.done (by kernel_rfl) ?_
   refine EQ.to ?_
   refine EQ.keep [1, 2, 5, 151] [(1, ig a0), (2, ig a1), (5, ia a3), (151, .bool (b0))] (by kernel_rfl) ?_
   exact fun a ha => ⟨b0, ha, (hS.re [] [] rfl (sub_self)), H⟩
  obtain ⟨p1, ha, hS, H⟩ := hI
  rw [F8] at H
  (try dsimp only at H)
  refine EW.at ?_ a ha
  clear ha a
  refine EW.cdP' (p1) (by kernel_rfl) (by kernel_rfl) (fun y3 => ?_) (fun y3 => ?_)
  ·rw [if_pos y3] at H
   refine EW.sq (by kernel_rfl) ?_
   refine EW.rg (by kernel_rfl) ?_
   refine EL.quick 8 [159] [(159, ia (IntKind.i64.wrap ((IntKind.i64.wrap ((IntKind.i64.wrap (Int.tmod a0 4)) * 65536)) + (IntKind.i64.wrap (Int.tmod a1 3)))))] (by kernel_rfl) ?_
   obtain ⟨o4, m7, D9, H⟩ := b2_out H
   have hq := confidantseat_in.calls D9 hS
   refine EL.of (EO.callD 20 [ia 1, ia (IntKind.i64.wrap ((IntKind.i64.wrap ((IntKind.i64.wrap (Int.tmod a0 4)) * 65536)) + (IntKind.i64.wrap (Int.tmod a1 3))))] _ 160 (by kernel_rfl) (by kernel_rfl) (by kernel_rfl) hq ?_)
   rintro v w ⟨rfl, hS⟩
   obtain ⟨m8, i4, E0, H⟩ := b2_out H
   have hq := confidantseat_in.calls E0 hS
   refine EL.of (EO.callD 20 [ia 21, ia 0] _ 161 (by kernel_rfl) (by kernel_rfl) (by kernel_rfl) hq ?_)
   rintro v w ⟨rfl, hS⟩
   obtain ⟨i5, e6, E1, H⟩ := b2_out H
   have hq := confidantseat_in.calls E1 hS
   refine EL.of (EO.callD 20 [ia 2, ia 0] _ 162 (by kernel_rfl) (by kernel_rfl) (by kernel_rfl) hq ?_)
   rintro v w ⟨rfl, hS⟩
   obtain ⟨q5, A1, H⟩ := lt_out H
   refine EL.of (EO.lit hS kS27 27 25 3 #[(0, ag [ia o4, ib m7]), (1, ag [ia m8, ib i4]), (2, ag [ia i5, ib e6])] [ia o4, ib m7, ia m8, ib i4, ia i5, ib e6] q5 163 (by kernel_rfl) (by kernel_rfl) (by kernel_rfl) (fun _ => (by kernel_rfl)) (by rw [A1]; rfl) (by kernel_rfl) (fun w G hr => (by rw [A1]; exact ⟨[ia o4, ib m7], [ia m8, ib i4, ia i5, ib e6], rfl, ⟨[ia o4], [ib m7], rfl, rfl, ⟨[ib m7], [], rfl, rfl, rfl⟩⟩, ⟨[ia m8, ib i4], [ia i5, ib e6], rfl, ⟨[ia m8], [ib i4], rfl, rfl, ⟨[ib i4], [], rfl, rfl, rfl⟩⟩, ⟨[ia i5, ib e6], [], rfl, ⟨[ia i5], [ib e6], rfl, rfl, ⟨[ib e6], [], rfl, rfl, rfl⟩⟩, rfl⟩⟩⟩)) ?_)
   intro v5 w hS
   refine EL.quick 1 [14] [(14, sv (some ⟨v5, 0, none⟩) 3 q5)] (by kernel_rfl) ?_
   refine EL.done (by kernel_rfl) ?_
   refine EQ.code ?_
   refine EW.ret (by kernel_rfl) ?_
   refine EQ.ret ?_
   refine EQ.ret ?_
   refine EQ.ret ?_
   obtain rfl := Option.some.inj H
   exact EQ.leave (sv (some ⟨v5, 0, none⟩) 3 q5) (by kernel_rfl) ⟨_, rfl, (some ⟨v5, 0, none⟩), 3, rfl, (hS.re [0] [] rfl (sub_self))⟩
  rw [if_neg y3] at H
  refine EW.skip (by kernel_rfl) ?_
  refine EQ.code ?_
  refine EW.sq (by kernel_rfl) ?_
  obtain ⟨o5, m9, E2, H⟩ := b2_out H
  obtain ⟨A9, H⟩ := ite_out H
  obtain ⟨n0, i6, E3, H⟩ := b2_out H
  obtain ⟨i7, e7, E4, H⟩ := b2_out H
  obtain ⟨q6, A2, H⟩ := lt_out H
  have hS := hS.drew
  refine EW.dr (B := B) [] [] (by kernel_rfl) (by kernel_rfl) ?_
  have hN : Region.noSelect Cd19.r.r.l.r.l.r.r.r.r.r.r.r.r.r.r.r.r.r.r.r.r.r.r.r.r.r.r.r.l.r.l.ops = true := (by kernel_rfl)
  have hF : freeAll Cd19.r.r.l.r.l.r.r.r.r.r.r.r.r.r.r.r.r.r.r.r.r.r.r.r.r.r.r.r.l.r.l.ops = true := (by kernel_rfl)
  have hC : Core B [] [] _ := ⟨_, _, hS⟩
  refine ED.quick hN hF hC [0, 1, 2, 4, 5, 6] [166, 169, 170] 6 [(166, ia (IntKind.i64.wrap (Int.tmod a1 4))), (169, ia (IntKind.i64.wrap a0)), (170, ia a3)] (bm 12 119) (by kernel_rfl) (by kernel_rfl) ?_
  refine ED.Y hN hF hC 7 5 (bm 12 247) (by kernel_rfl) (by kernel_rfl) rfl (fun _ _ _ hS => YO.div .rem .i64 (IntKind.i64.wrap a0) a3 (Int.tmod (IntKind.i64.wrap a0) a3) 171 (by kernel_rfl) (by kernel_rfl) (by kernel_rfl) A9 (by first | exact .inl ⟨rfl, rfl⟩ | exact .inr ⟨rfl, rfl⟩)) ?_
  have hq := confidantseat_in.calls E2 hS
  refine ED.one 3 4 (bm 12 255) (by kernel_rfl) (by kernel_rfl) (by kernel_rfl) (EO.callD 20 [ia 12, ia (IntKind.i64.wrap (Int.tmod a1 4))] _ 167 (by kernel_rfl) (by kernel_rfl) (by kernel_rfl) hq ?_)
  rintro v w ⟨rfl, hS⟩
  have hC := hC.again ⟨_, _, hS⟩
  refine ⟨hC, ?_⟩
  have hq := confidantseat_in.calls E3 hS
  refine ED.one 8 3 (bm 12 511) (by kernel_rfl) (by kernel_rfl) (by kernel_rfl) (EO.callD 20 [ia 23, ia (Int.tmod (IntKind.i64.wrap a0) a3)] _ 172 (by kernel_rfl) (by kernel_rfl) (by kernel_rfl) hq ?_)
  rintro v w ⟨rfl, hS⟩
  have hC := hC.again ⟨_, _, hS⟩
  refine ⟨hC, ?_⟩
  have hq := confidantseat_in.calls E4 hS
  refine ED.one 9 2 (bm 12 1023) (by kernel_rfl) (by kernel_rfl) (by kernel_rfl) (EO.callD 20 [ia 13, ia 1] _ 173 (by kernel_rfl) (by kernel_rfl) (by kernel_rfl) hq ?_)
  rintro v w ⟨rfl, hS⟩
  have hC := hC.again ⟨_, _, hS⟩
  refine ⟨hC, ?_⟩
  refine ED.one 10 1 (bm 12 2047) (by kernel_rfl) (by kernel_rfl) (by kernel_rfl) (EO.lit hS kS27 27 25 3 #[(0, ag [ia o5, ib m9]), (1, ag [ia n0, ib i6]), (2, ag [ia i7, ib e7])] [ia o5, ib m9, ia n0, ib i6, ia i7, ib e7] q6 174 (by kernel_rfl) (by kernel_rfl) (by kernel_rfl) (fun _ => (by kernel_rfl)) (by rw [A2]; rfl) (by kernel_rfl) (fun w G hr => (by rw [A2]; exact ⟨[ia o5, ib m9], [ia n0, ib i6, ia i7, ib e7], rfl, ⟨[ia o5], [ib m9], rfl, rfl, ⟨[ib m9], [], rfl, rfl, rfl⟩⟩, ⟨[ia n0, ib i6], [ia i7, ib e7], rfl, ⟨[ia n0], [ib i6], rfl, rfl, ⟨[ib i6], [], rfl, rfl, rfl⟩⟩, ⟨[ia i7, ib e7], [], rfl, ⟨[ia i7], [ib e7], rfl, rfl, ⟨[ib e7], [], rfl, rfl, rfl⟩⟩, rfl⟩⟩⟩)) ?_)
  intro v6 w hS
  have hC := hC.again ⟨_, _, hS⟩
  refine ⟨hC, ?_⟩
  refine ED.quick hN hF hC [11] [14] 0 [(14, sv (some ⟨v6, 0, none⟩) 3 q6)] (bm 12 4095) (by kernel_rfl) (by kernel_rfl) ?_
  refine ED.done (by kernel_rfl) ?_
  refine EQ.code ?_
  refine EW.ret (by kernel_rfl) ?_
  refine EQ.ret ?_
  refine EQ.ret ?_
  obtain rfl := Option.some.inj H
  exact EQ.leave (sv (some ⟨v6, 0, none⟩) 3 q6) (by kernel_rfl) ⟨_, rfl, (some ⟨v6, 0, none⟩), 3, rfl, (hS.re [0] [] rfl (sub_self))⟩
 rw [if_neg y2] at H
 refine EW.sq (by kernel_rfl) ?_
 refine EW.rg (by kernel_rfl) ?_
 refine EL.quick 2 [1, 2, 5, 26, 175] [(1, ig a0), (2, ig a1), (5, ia a3), (26, ig (Int.tmod a2 16)), (175, .bool (decide ((Int.tmod a2 16) = 13)))] (by kernel_rfl) ?_
 refine EL.done (by kernel_rfl) ?_
 refine EQ.code ?_
 refine EW.cdP ((Int.tmod a2 16) = 13) (by kernel_rfl) (by kernel_rfl) (fun y4 => ?_) (fun y4 => ?_)
 ·rw [if_pos y4] at H
  refine EW.sq (by kernel_rfl) ?_
  refine EW.sq (by kernel_rfl) ?_
  refine EW.rg (by kernel_rfl) ?_
  refine EL.quick 2 [1, 2, 5, 178] [(1, ig a0), (2, ig a1), (5, ia a3), (178, .bool (decide (a3 = 0)))] (by kernel_rfl) ?_
  refine EL.done (by kernel_rfl) ?_
  refine EQ.code ?_
  refine EW.cdP (a3 = 0) (by kernel_rfl) (by kernel_rfl) (fun t4 => ?_) (fun t4 => ?_)
  ·rw [if_pos t4] at H
   refine EW.sq (by kernel_rfl) ?_
   refine EW.rg (by kernel_rfl) ?_
   refine EL.quick 8 [186] [(186, ia (IntKind.i64.wrap ((IntKind.i64.wrap ((IntKind.i64.wrap (Int.tmod a0 4)) * 65536)) + (IntKind.i64.wrap (Int.tmod a1 3)))))] (by kernel_rfl) ?_
   obtain ⟨o6, n1, E5, H⟩ := b2_out H
   have hq := confidantseat_in.calls E5 hS
   refine EL.of (EO.callD 20 [ia 1, ia (IntKind.i64.wrap ((IntKind.i64.wrap ((IntKind.i64.wrap (Int.tmod a0 4)) * 65536)) + (IntKind.i64.wrap (Int.tmod a1 3))))] _ 187 (by kernel_rfl) (by kernel_rfl) (by kernel_rfl) hq ?_)
   rintro v w ⟨rfl, hS⟩
   obtain ⟨n2, i8, E6, H⟩ := b2_out H
   have hq := confidantseat_in.calls E6 hS
   refine EL.of (EO.callD 20 [ia 18, ia 0] _ 188 (by kernel_rfl) (by kernel_rfl) (by kernel_rfl) hq ?_)
   rintro v w ⟨rfl, hS⟩
   obtain ⟨i9, e8, E7, H⟩ := b2_out H
   have hq := confidantseat_in.calls E7 hS
   refine EL.of (EO.callD 20 [ia 2, ia 0] _ 189 (by kernel_rfl) (by kernel_rfl) (by kernel_rfl) hq ?_)
   rintro v w ⟨rfl, hS⟩
   obtain ⟨q7, A3, H⟩ := lt_out H
   refine EL.of (EO.lit hS kS27 27 25 3 #[(0, ag [ia o6, ib n1]), (1, ag [ia n2, ib i8]), (2, ag [ia i9, ib e8])] [ia o6, ib n1, ia n2, ib i8, ia i9, ib e8] q7 190 (by kernel_rfl) (by kernel_rfl) (by kernel_rfl) (fun _ => (by kernel_rfl)) (by rw [A3]; rfl) (by kernel_rfl) (fun w G hr => (by rw [A3]; exact ⟨[ia o6, ib n1], [ia n2, ib i8, ia i9, ib e8], rfl, ⟨[ia o6], [ib n1], rfl, rfl, ⟨[ib n1], [], rfl, rfl, rfl⟩⟩, ⟨[ia n2, ib i8], [ia i9, ib e8], rfl, ⟨[ia n2], [ib i8], rfl, rfl, ⟨[ib i8], [], rfl, rfl, rfl⟩⟩, ⟨[ia i9, ib e8], [], rfl, ⟨[ia i9], [ib e8], rfl, rfl, ⟨[ib e8], [], rfl, rfl, rfl⟩⟩, rfl⟩⟩⟩)) ?_)
   intro v7 w hS
   refine EL.quick 1 [14] [(14, sv (some ⟨v7, 0, none⟩) 3 q7)] (by kernel_rfl) ?_
   refine EL.done (by kernel_rfl) ?_
   refine EQ.code ?_
   refine EW.ret (by kernel_rfl) ?_
   refine EQ.ret ?_
   refine EQ.ret ?_
   refine EQ.ret ?_
   obtain rfl := Option.some.inj H
   exact EQ.leave (sv (some ⟨v7, 0, none⟩) 3 q7) (by kernel_rfl) ⟨_, rfl, (some ⟨v7, 0, none⟩), 3, rfl, (hS.re [0] [] rfl (sub_self))⟩
  rw [if_neg t4] at H
  refine EW.skip (by kernel_rfl) ?_
  refine EQ.code ?_
  refine EW.sq (by kernel_rfl) ?_
  refine EW.rg (by kernel_rfl) ?_
  refine EL.quick 3 [192, 193] [(192, ia (IntKind.i64.wrap a0)), (193, ia a3)] (by kernel_rfl) ?_
  refine EL.of (EO.Y (YO.div .rem .i64 (IntKind.i64.wrap a0) a3 (Int.tmod (IntKind.i64.wrap a0) a3) 194 (by kernel_rfl) (by kernel_rfl) (by kernel_rfl) t4 (by first | exact .inl ⟨rfl, rfl⟩ | exact .inr ⟨rfl, rfl⟩)) ?_)
  obtain ⟨o7, n3, E8, H⟩ := b2_out H
  have hq := confidantseat_in.calls E8 hS
  refine EL.of (EO.callD 20 [ia 24, ia (Int.tmod (IntKind.i64.wrap a0) a3)] _ 195 (by kernel_rfl) (by kernel_rfl) (by kernel_rfl) hq ?_)
  rintro v w ⟨rfl, hS⟩
  obtain ⟨n4, j0, E9, H⟩ := b2_out H
  have hq := confidantseat_in.calls E9 hS
  refine EL.of (EO.callD 20 [ia 2, ia 0] _ 196 (by kernel_rfl) (by kernel_rfl) (by kernel_rfl) hq ?_)
  rintro v w ⟨rfl, hS⟩
  obtain ⟨j1, e9, F0, H⟩ := b2_out H
  have hq := confidantseat_in.calls F0 hS
  refine EL.of (EO.callD 20 [ia 13, ia 0] _ 197 (by kernel_rfl) (by kernel_rfl) (by kernel_rfl) hq ?_)
  rintro v w ⟨rfl, hS⟩
  obtain ⟨q8, A4, H⟩ := lt_out H
  refine EL.of (EO.lit hS kS27 27 25 3 #[(0, ag [ia o7, ib n3]), (1, ag [ia n4, ib j0]), (2, ag [ia j1, ib e9])] [ia o7, ib n3, ia n4, ib j0, ia j1, ib e9] q8 198 (by kernel_rfl) (by kernel_rfl) (by kernel_rfl) (fun _ => (by kernel_rfl)) (by rw [A4]; rfl) (by kernel_rfl) (fun w G hr => (by rw [A4]; exact ⟨[ia o7, ib n3], [ia n4, ib j0, ia j1, ib e9], rfl, ⟨[ia o7], [ib n3], rfl, rfl, ⟨[ib n3], [], rfl, rfl, rfl⟩⟩, ⟨[ia n4, ib j0], [ia j1, ib e9], rfl, ⟨[ia n4], [ib j0], rfl, rfl, ⟨[ib j0], [], rfl, rfl, rfl⟩⟩, ⟨[ia j1, ib e9], [], rfl, ⟨[ia j1], [ib e9], rfl, rfl, ⟨[ib e9], [], rfl, rfl, rfl⟩⟩, rfl⟩⟩⟩)) ?_)
  intro v8 w hS
  refine EL.quick 1 [14] [(14, sv (some ⟨v8, 0, none⟩) 3 q8)] (by kernel_rfl) ?_
  refine EL.done (by kernel_rfl) ?_
  refine EQ.code ?_
  refine EW.ret (by kernel_rfl) ?_
  refine EQ.ret ?_
  refine EQ.ret ?_
  obtain rfl := Option.some.inj H
  exact EQ.leave (sv (some ⟨v8, 0, none⟩) 3 q8) (by kernel_rfl) ⟨_, rfl, (some ⟨v8, 0, none⟩), 3, rfl, (hS.re [0] [] rfl (sub_self))⟩
 rw [if_neg y4] at H
 refine EW.sq (by kernel_rfl) ?_
 refine EW.rg (by kernel_rfl) ?_
 refine EL.quick 2 [1, 199] [(1, ig a0), (199, .bool (decide ((Int.tmod a2 16) = 14)))] (by kernel_rfl) ?_
 refine EL.done (by kernel_rfl) ?_
 refine EQ.code ?_
 refine EW.cdP ((Int.tmod a2 16) = 14) (by kernel_rfl) (by kernel_rfl) (fun y5 => ?_) (fun y5 => ?_)
 ·rw [if_pos y5] at H
  refine EW.sq (by kernel_rfl) ?_
  refine EW.rg (by kernel_rfl) ?_
  refine EL.quick 3 [203] [(203, ia (IntKind.i64.wrap (Int.tmod a0 4)))] (by kernel_rfl) ?_
  obtain ⟨o8, n5, F1, H⟩ := b2_out H
  have hq := confidantseat_in.calls F1 hS
  refine EL.of (EO.callD 20 [ia 1, ia (IntKind.i64.wrap (Int.tmod a0 4))] _ 204 (by kernel_rfl) (by kernel_rfl) (by kernel_rfl) hq ?_)
  rintro v w ⟨rfl, hS⟩
  obtain ⟨n6, j2, F2, H⟩ := b2_out H
  have hq := confidantseat_in.calls F2 hS
  refine EL.of (EO.callD 20 [ia 13, ia 1] _ 205 (by kernel_rfl) (by kernel_rfl) (by kernel_rfl) hq ?_)
  rintro v w ⟨rfl, hS⟩
  obtain ⟨q9, A5, H⟩ := lt_out H
  refine EL.of (EO.lit hS kS27 27 25 2 #[(0, ag [ia o8, ib n5]), (1, ag [ia n6, ib j2])] [ia o8, ib n5, ia n6, ib j2] q9 206 (by kernel_rfl) (by kernel_rfl) (by kernel_rfl) (fun _ => (by kernel_rfl)) (by rw [A5]; rfl) (by kernel_rfl) (fun w G hr => (by rw [A5]; exact ⟨[ia o8, ib n5], [ia n6, ib j2], rfl, ⟨[ia o8], [ib n5], rfl, rfl, ⟨[ib n5], [], rfl, rfl, rfl⟩⟩, ⟨[ia n6, ib j2], [], rfl, ⟨[ia n6], [ib j2], rfl, rfl, ⟨[ib j2], [], rfl, rfl, rfl⟩⟩, rfl⟩⟩)) ?_)
  intro v9 w hS
  refine EL.quick 1 [14] [(14, sv (some ⟨v9, 0, none⟩) 2 q9)] (by kernel_rfl) ?_
  refine EL.done (by kernel_rfl) ?_
  refine EQ.code ?_
  refine EW.ret (by kernel_rfl) ?_
  refine EQ.ret ?_
  refine EQ.ret ?_
  obtain rfl := Option.some.inj H
  exact EQ.leave (sv (some ⟨v9, 0, none⟩) 2 q9) (by kernel_rfl) ⟨_, rfl, (some ⟨v9, 0, none⟩), 2, rfl, (hS.re [0] [] rfl (sub_self))⟩
 rw [if_neg y5] at H
 refine EW.skip (by kernel_rfl) ?_
 refine EQ.pop ?_
 refine EQ.code ?_
 refine EW.sq (by kernel_rfl) ?_
 refine EW.rg (by kernel_rfl) ?_
 refine EL.quick 2 [208] [(208, ia (IntKind.i64.wrap a0))] (by kernel_rfl) ?_
 obtain ⟨o9, n7, F3, H⟩ := b2_out H
 have hq := confidantseat_in.calls F3 hS
 refine EL.of (EO.callD 20 [ia 1, ia (IntKind.i64.wrap a0)] _ 209 (by kernel_rfl) (by kernel_rfl) (by kernel_rfl) hq ?_)
 rintro v w ⟨rfl, hS⟩
 obtain ⟨n8, j3, F4, H⟩ := b2_out H
 have hq := confidantseat_in.calls F4 hS
 refine EL.of (EO.callD 20 [ia 3, ia 0] _ 210 (by kernel_rfl) (by kernel_rfl) (by kernel_rfl) hq ?_)
 rintro v w ⟨rfl, hS⟩
 obtain ⟨j4, f0, F5, H⟩ := b2_out H
 have hq := confidantseat_in.calls F5 hS
 refine EL.of (EO.callD 20 [ia 4, ia 0] _ 211 (by kernel_rfl) (by kernel_rfl) (by kernel_rfl) hq ?_)
 rintro v w ⟨rfl, hS⟩
 obtain ⟨f1, c7, F6, H⟩ := b2_out H
 have hq := confidantseat_in.calls F6 hS
 refine EL.of (EO.callD 20 [ia 2, ia 0] _ 212 (by kernel_rfl) (by kernel_rfl) (by kernel_rfl) hq ?_)
 rintro v w ⟨rfl, hS⟩
 obtain ⟨t0, A6, H⟩ := lt_out H
 refine EL.of (EO.lit hS kS27 27 25 4 #[(0, ag [ia o9, ib n7]), (1, ag [ia n8, ib j3]), (2, ag [ia j4, ib f0]), (3, ag [ia f1, ib c7])] [ia o9, ib n7, ia n8, ib j3, ia j4, ib f0, ia f1, ib c7] t0 213 (by kernel_rfl) (by kernel_rfl) (by kernel_rfl) (fun _ => (by kernel_rfl)) (by rw [A6]; rfl) (by kernel_rfl) (fun w G hr => (by rw [A6]; exact ⟨[ia o9, ib n7], [ia n8, ib j3, ia j4, ib f0, ia f1, ib c7], rfl, ⟨[ia o9], [ib n7], rfl, rfl, ⟨[ib n7], [], rfl, rfl, rfl⟩⟩, ⟨[ia n8, ib j3], [ia j4, ib f0, ia f1, ib c7], rfl, ⟨[ia n8], [ib j3], rfl, rfl, ⟨[ib j3], [], rfl, rfl, rfl⟩⟩, ⟨[ia j4, ib f0], [ia f1, ib c7], rfl, ⟨[ia j4], [ib f0], rfl, rfl, ⟨[ib f0], [], rfl, rfl, rfl⟩⟩, ⟨[ia f1, ib c7], [], rfl, ⟨[ia f1], [ib c7], rfl, rfl, ⟨[ib c7], [], rfl, rfl, rfl⟩⟩, rfl⟩⟩⟩⟩)) ?_)
 intro x0 w hS
 refine EL.quick 1 [14] [(14, sv (some ⟨x0, 0, none⟩) 4 t0)] (by kernel_rfl) ?_
 refine EL.done (by kernel_rfl) ?_
 refine EQ.code ?_
 refine EW.ret (by kernel_rfl) ?_
 obtain rfl := Option.some.inj H
 exact EQ.leave (sv (some ⟨x0, 0, none⟩) 4 t0) (by kernel_rfl) ⟨_, rfl, (some ⟨x0, 0, none⟩), 4, rfl, (hS.re [0] [] rfl (sub_self))⟩

end Go.Proofs.YtiilloijkbabbaaDoor.G
