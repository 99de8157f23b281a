import Derived.Test.YtifnjijlbcacoaaProg
import Derived.Test.YtifnjijlbcacoaaFwEq
import Derived.Test.YtifnjijlbcacoaaFwOpen
import Derived.Test.YtifnjijlbcacoaaG0
import Derived.Test.YtifnjijlbcacoaaG1
import Derived.Test.YtifnjijlbcacoaaG2
import Derived.Test.YtifnjijlbcacoaaG4
namespace Go.Proofs.Ytifnjijlbcacoaa.G
open Go Go.Fw Go.RowKit Go.Proofs
set_option linter.unusedVariables false
set_option linter.unusedSimpArgs false

/-! ### confidant/confidantlaw12.ArenaApart: function 10 -/
def confidantlaw12_ArenaApart.l0 (K : Nat) (a6 : Int) (t2693 : List Int) (a7 : Int) (a8 : Int) (a5 : Int) (j4454 : Int → Int → (List (List S69)) → Option Bool) : Nat → Int → Int → (List (List S69)) → Int → Option Bool
  | 0, _, _, _, _ => none
  | n + 1, x4747, x4748, x4749, x4752 => if x4752 < (IntKind.i64.wrap (Int.tmod a6 20)) then (lt (fun (x5229 : List (List S69)) (x5232 : Int) (x5233 : Int) => (confidantlaw12_ArenaApart.l0 K a6 t2693 a7 a8 a5 j4454 n x5232 x5233 x5229 (IntKind.i64.wrap (x4752 + 1)))) fun j5234 => (if (Int.tmod x4752 8) < 0 then none else (b3 (arena_Arena_Make.f K x4749 t2693 (bA .i64 (IntKind.i64.wrap (sR .u8 a7 (Int.tmod x4752 8))) 1) (IntKind.i64.wrap (Int.tmod a8 16)) (IntKind.i32.wrap x4752)) fun (t5243 : List (List S69)) (t5244 : Int) (t5245 : Bool) => (if (bA .i64 (IntKind.i64.wrap (sR .u8 a7 (Int.tmod x4752 8))) 1) = 1 then (lt (fun (x5279 : Bool) (x5280 : Bool) => (if x5280 = true then (some false) else (if x5279 = true then (j5234 t5243 (IntKind.i64.wrap (x4747 + 1)) x4748) else (j5234 t5243 x4747 x4748)))) fun j5281 => (if (t5245 == (decide (x4747 < (IntKind.i64.wrap (Int.tmod a5 9))))) = true then (if t5245 = true then (lt (IntKind.i64.wrap ((bA .i64 (IntKind.i64.wrap (sR .u8 a7 (Int.tmod x4752 8))) 1) * 65536)) fun y5284 => (lt (IntKind.i64.wrap ((IntKind.i64.wrap ((bA .i64 (IntKind.i64.wrap (sR .u8 a7 (Int.tmod x4752 8))) 1) * 65536)) + x4747)) fun y5285 => (j5281 true (!(decide ((IntKind.i64.wrap t5244) = (IntKind.i64.wrap ((IntKind.i64.wrap ((bA .i64 (IntKind.i64.wrap (sR .u8 a7 (Int.tmod x4752 8))) 1) * 65536)) + x4747)))))))) else (j5281 false false)) else (j5281 t5245 true))) else (lt (fun (x5316 : Bool) (x5317 : Bool) => (if x5317 = true then (some false) else (if x5316 = true then (j5234 t5243 x4747 (IntKind.i64.wrap (x4748 + 1))) else (j5234 t5243 x4747 x4748)))) fun j5318 => (if (t5245 == (decide (x4748 < (IntKind.i64.wrap (Int.tmod a5 9))))) = true then (if t5245 = true then (lt (IntKind.i64.wrap ((bA .i64 (IntKind.i64.wrap (sR .u8 a7 (Int.tmod x4752 8))) 1) * 65536)) fun y5321 => (lt (IntKind.i64.wrap ((IntKind.i64.wrap ((bA .i64 (IntKind.i64.wrap (sR .u8 a7 (Int.tmod x4752 8))) 1) * 65536)) + x4748)) fun y5322 => (j5318 true (!(decide ((IntKind.i64.wrap t5244) = (IntKind.i64.wrap ((IntKind.i64.wrap ((bA .i64 (IntKind.i64.wrap (sR .u8 a7 (Int.tmod x4752 8))) 1) * 65536)) + x4748)))))))) else (j5318 false false)) else (j5318 t5245 true))))))) else (j4454 x4747 x4748 x4749)
def confidantlaw12_ArenaApart.f (K : Nat) (a5 : Int) (a6 : Int) (a7 : Int) (a8 : Int) : Option Bool := b1 (confidantlaw12_known.f K) fun (t2677 : Bool) => (if t2677 = true then (lt ([IntKind.i64.wrap (Int.tmod a5 9), IntKind.i64.wrap (Int.tmod a5 9)] : List Int) fun l2691 => (b2 (arena_New.f K l2691) fun (t2692 : List (List S69)) (t2693 : List Int) => (lt (fun (x4449 : Int) (x4450 : Int) (x4451 : List (List S69)) => (b1 (arena_Arena_Count.f K x4451 t2693 0) fun (t5325 : Int) => (if t5325 = x4450 then (b1 (arena_Arena_Count.f K x4451 t2693 1) fun (t5328 : Int) => (some (decide (t5328 = x4449)))) else (some false)))) fun j4454 => (confidantlaw12_ArenaApart.l0 K a6 t2693 a7 a8 a5 j4454 K 0 0 t2692 0)))) else (some false))
set_option maxRecDepth 100000 in
theorem confidantlaw12_ArenaApart.calls {K : Nat} {a5 : Int} {a6 : Int} {a7 : Int} {a8 : Int} {x2669 : Bool} {B w : World} {os : List Ass} {rs : List Ro} (H : confidantlaw12_ArenaApart.f K a5 a6 a7 a8 = some x2669) (hS : St B w (os) (rs)) :
    Calls Try.prog 10 [.int .u8 a5, .int .u8 a6, .int .u8 a7, .int .u8 a8].toArray w (fun en w' => ∃ v, en = .returned v ∧ v = .bool (x2669) ∧ St B w' (os) (rs)) := by
  unfold confidantlaw12_ArenaApart.f at H
  refine calls_of_EW (args := [.int .u8 a5, .int .u8 a6, .int .u8 a7, .int .u8 a8]) (c := Cd10) 92 Try.func10 (by kernel_rfl) (by kernel_rfl) (by kernel_rfl) ?_
  refine EW.seq (x := Cd10.l) (y := Cd10.r) (by kernel_rfl) ?_
  refine EW.region (id := 0) (ops := Cd10.l.ops) (by kernel_rfl) ?_
  refine EL.quick 1 [0, 1, 2, 3] [(0, .int .u8 a5), (1, .int .u8 a6), (2, .int .u8 a7), (3, .int .u8 a8)] (by kernel_rfl) ?_
  refine EL.done (by kernel_rfl) ?_
  refine EQ.code ?_
  refine EW.seq (x := Cd10.r.l) (y := Cd10.r.r) (by kernel_rfl) ?_
  refine EW.seq (x := Cd10.r.l.l) (y := Cd10.r.l.r) (by kernel_rfl) ?_
  refine EW.region (id := 1) (ops := Cd10.r.l.l.ops) (by kernel_rfl) ?_
  obtain ⟨t2677, hc2678, H⟩ := b1_out H
  refine EL.of (EO.callD 32 [] _ 17 (by kernel_rfl) (by kernel_rfl) (by kernel_rfl) (confidantlaw12_known.calls hc2678 hS) ?_)
  rintro v w ⟨rfl, hS⟩
  refine EL.quick 1 [0, 1, 2, 3, 18] [(0, .int .u8 a5), (1, .int .u8 a6), (2, .int .u8 a7), (3, .int .u8 a8), (18, .bool (!(t2677)))] (by kernel_rfl) ?_
  refine EL.done (by kernel_rfl) ?_
  refine EQ.code ?_
  refine EW.condQ (b := !(t2677)) (o := (.tmp 18)) (x := Cd10.r.l.r.l) (y := Cd10.r.l.r.r) (t2677 = true) (false) (by kernel_rfl) (by kernel_rfl) ⟨fun h => (by rw [h] <;> rfl), fun h => (by rw [Bool.eq_false_iff.2 h] <;> rfl)⟩ (fun h2679 => ?_) (fun h2679 => ?_)
  · rw [if_pos h2679] at H
    refine EW.skip (by kernel_rfl) ?_
    refine EQ.code ?_
    refine EW.seq (x := Cd10.r.r.l) (y := Cd10.r.r.r) (by kernel_rfl) ?_
    refine EW.region (id := 3) (ops := Cd10.r.r.l.ops) (by kernel_rfl) ?_
    refine EL.quick 6 [0, 1, 2, 3, 21, 24] [(0, .int .u8 a5), (1, .int .u8 a6), (2, .int .u8 a7), (3, .int .u8 a8), (21, .int .i64 (IntKind.i64.wrap (Int.tmod a5 9))), (24, .int .i64 (IntKind.i64.wrap (Int.tmod a5 9)))] (by kernel_rfl) ?_
    obtain ⟨l2691, hl2691, H⟩ := lt_out H
    refine EL.of (EO.lit hS (Kd.int .i64) 3 24 2 #[(0, .int .i64 (IntKind.i64.wrap (Int.tmod a5 9))), (1, .int .i64 (IntKind.i64.wrap (Int.tmod a5 9)))] [.int .i64 (IntKind.i64.wrap (Int.tmod a5 9)), .int .i64 (IntKind.i64.wrap (Int.tmod a5 9))] l2691 25 (by kernel_rfl) (by kernel_rfl) (by kernel_rfl) (fun _ => (by kernel_rfl)) (by rw [hl2691]; rfl) (by kernel_rfl) (fun w G hr => (by rw [hl2691]; exact ⟨[.int .i64 (IntKind.i64.wrap (Int.tmod a5 9))], [.int .i64 (IntKind.i64.wrap (Int.tmod a5 9))], rfl, rfl, ⟨[.int .i64 (IntKind.i64.wrap (Int.tmod a5 9))], [], rfl, rfl, rfl⟩⟩)) ?_)
    intro g2690 w hS
    have hS := St.fr hS 0 rfl
    have hS : St B _ (os) (Ro.sl (Kd.int .i64) (some ⟨g2690, 0, none⟩) 2 l2691 :: Ro.sl (Kd.int .i64) (some ⟨g2690, 0, none⟩) 2 l2691 :: rs) := hS.re [] [] rfl (sub_cons 0 rfl sub_self)
    obtain ⟨t2692, t2693, hc2699, H⟩ := b2_out H
    refine EL.of (EO.callD 34 [.slice (some ⟨g2690, 0, none⟩) l2691.length 2] _ 26 (by kernel_rfl) (by kernel_rfl) (by kernel_rfl) (arena_New.calls hc2699 hS) ?_)
    rintro v w ⟨g2694, A2695, C2696, A2697, C2698, rfl, hS⟩
    refine EL.quick 1 [0, 1, 2, 3, 9] [(0, .int .u8 a5), (1, .int .u8 a6), (2, .int .u8 a7), (3, .int .u8 a8), (9, .pointer (some ⟨g2694, 0, none⟩))] (by kernel_rfl) ?_
    refine EL.done (by kernel_rfl) ?_
    refine EQ.code ?_
    refine EW.seq (x := Cd10.r.r.r.l) (y := Cd10.r.r.r.r) (by kernel_rfl) ?_
    refine EW.region (id := 4) (ops := Cd10.r.r.r.l.ops) (by kernel_rfl) ?_
    refine EL.of (EO.alloc hS 3 (.int .i64 0) [.int .i64 0] 10 (by kernel_rfl) (by kernel_rfl) (by kernel_rfl) (by kernel_rfl) (by first | rfl | kernel_rfl) ?_)
    intro g2702 w hS
    refine EL.of (EO.alloc hS 3 (.int .i64 0) [.int .i64 0] 11 (by kernel_rfl) (by kernel_rfl) (by kernel_rfl) (by kernel_rfl) (by first | rfl | kernel_rfl) ?_)
    intro g2703 w hS
    refine EL.of (EO.storeBox (os' := Ass.box 3 g2703 [.int .i64 0] :: Ass.box 3 g2702 [.int .i64 0] :: Ass.box 95 g2694 [.slice A2695 t2692.length C2696, .slice A2697 t2693.length C2698] :: Ass.deep 76 69 kS69 A2695 C2696 t2692 :: Ass.own 3 (Kd.int .i64) A2697 C2698 t2693 :: os) hS 1 rfl 3 0 (.int .i64 0) [.int .i64 0] (by kernel_rfl) (by kernel_rfl) (by kernel_rfl) (by kernel_rfl) (by kernel_rfl) (by kernel_rfl) rfl rfl ?_)
    intro w hS
    refine EL.of (EO.storeBox (os' := Ass.box 3 g2703 [.int .i64 0] :: Ass.box 3 g2702 [.int .i64 0] :: Ass.box 95 g2694 [.slice A2695 t2692.length C2696, .slice A2697 t2693.length C2698] :: Ass.deep 76 69 kS69 A2695 C2696 t2692 :: Ass.own 3 (Kd.int .i64) A2697 C2698 t2693 :: os) hS 0 rfl 3 0 (.int .i64 0) [.int .i64 0] (by kernel_rfl) (by kernel_rfl) (by kernel_rfl) (by kernel_rfl) (by kernel_rfl) (by kernel_rfl) rfl rfl ?_)
    intro w hS
    refine EL.done (by kernel_rfl) ?_
    refine EQ.code ?_
    obtain ⟨j4454, hj4454, H⟩ := lt_out H
    refine EW.cut (x := Cd10.r.r.r.r.l) (y := Cd10.r.r.r.r.r) (fun a w => ∃ x4449 : Int, ∃ x4450 : Int, ∃ x4451 : List (List S69), ∃ A4452 : Option Addr, ∃ C4453 : Nat, Sat 92 [(9, .pointer (some ⟨g2694, 0, none⟩)), (10, .pointer (some ⟨g2702, 0, none⟩)), (11, .pointer (some ⟨g2703, 0, none⟩))] a ∧ St B w (Ass.box 3 g2703 [.int .i64 x4449] :: Ass.box 3 g2702 [.int .i64 x4450] :: Ass.box 95 g2694 [.slice A4452 x4451.length C4453, .slice A2697 t2693.length C2698] :: Ass.deep 76 69 kS69 A4452 C4453 x4451 :: Ass.own 3 (Kd.int .i64) A2697 C2698 t2693 :: os) (Ro.sl (Kd.int .i64) (some ⟨g2690, 0, none⟩) 2 l2691 :: Ro.sl (Kd.int .i64) (some ⟨g2690, 0, none⟩) 2 l2691 :: rs) ∧ j4454 x4449 x4450 x4451 = some x2669) (by kernel_rfl) ?_ (fun a w hI => ?_)
    · refine EW.seq (x := Cd10.r.r.r.r.l.l) (y := Cd10.r.r.r.r.l.r) (by kernel_rfl) ?_
      refine EW.region (id := 5) (ops := Cd10.r.r.r.r.l.l.ops) (by kernel_rfl) ?_
      refine EL.quick 1 [0, 1, 2, 3, 9, 10, 11, 12] [(0, .int .u8 a5), (1, .int .u8 a6), (2, .int .u8 a7), (3, .int .u8 a8), (9, .pointer (some ⟨g2694, 0, none⟩)), (10, .pointer (some ⟨g2702, 0, none⟩)), (11, .pointer (some ⟨g2703, 0, none⟩)), (12, .int .i64 0)] (by kernel_rfl) ?_
      refine EL.done (by kernel_rfl) ?_
      refine EQ.code ?_
      refine EW.block (x := Cd10.r.r.r.r.l.r.l) (id := 0) (by kernel_rfl) ?_
      refine EW.loop (x := Cd10.r.r.r.r.l.r.l.l) (fun n a w => ∃ x4747 : Int, ∃ x4748 : Int, ∃ x4749 : List (List S69), ∃ x4752 : Int, ∃ A4750 : Option Addr, ∃ C4751 : Nat, Sat 92 [(0, .int .u8 a5), (1, .int .u8 a6), (2, .int .u8 a7), (3, .int .u8 a8), (9, .pointer (some ⟨g2694, 0, none⟩)), (10, .pointer (some ⟨g2702, 0, none⟩)), (11, .pointer (some ⟨g2703, 0, none⟩)), (12, .int .i64 x4752)] a ∧ St B w (Ass.box 3 g2703 [.int .i64 x4747] :: Ass.box 3 g2702 [.int .i64 x4748] :: Ass.box 95 g2694 [.slice A4750 x4749.length C4751, .slice A2697 t2693.length C2698] :: Ass.deep 76 69 kS69 A4750 C4751 x4749 :: Ass.own 3 (Kd.int .i64) A2697 C2698 t2693 :: os) (Ro.sl (Kd.int .i64) (some ⟨g2690, 0, none⟩) 2 l2691 :: Ro.sl (Kd.int .i64) (some ⟨g2690, 0, none⟩) 2 l2691 :: rs) ∧ confidantlaw12_ArenaApart.l0 K a6 t2693 a7 a8 a5 j4454 n x4747 x4748 x4749 x4752 = some x2669) K (by kernel_rfl) ?_ (fun n a w hI => ?_)
      · refine EQ.keep [0, 1, 2, 3, 9, 10, 11, 12] [(0, .int .u8 a5), (1, .int .u8 a6), (2, .int .u8 a7), (3, .int .u8 a8), (9, .pointer (some ⟨g2694, 0, none⟩)), (10, .pointer (some ⟨g2702, 0, none⟩)), (11, .pointer (some ⟨g2703, 0, none⟩)), (12, .int .i64 0)] (by kernel_rfl) ?_
        exact fun a ha => ⟨0, 0, t2692, 0, A2695, C2696, ha, (hS.re [4, 4, 4, 4, 4] [] rfl (sub_cons 0 rfl (sub_cons 0 rfl (sub_tail (sub_tail (sub_self)))))), H⟩
      · obtain ⟨x4747, x4748, x4749, x4752, A4750, C4751, ha, hS, H⟩ := hI
        obtain _ | n := n
        · simp [confidantlaw12_ArenaApart.l0] at H
        rw [confidantlaw12_ArenaApart.l0.eq_2] at H
        refine EW.at ?_ a ha
        clear ha a
        refine EW.seq (x := Cd10.r.r.r.r.l.r.l.l.l) (y := Cd10.r.r.r.r.l.r.l.l.r) (by kernel_rfl) ?_
        refine EW.seq (x := Cd10.r.r.r.r.l.r.l.l.l.l) (y := Cd10.r.r.r.r.l.r.l.l.l.r) (by kernel_rfl) ?_
        refine EW.region (id := 6) (ops := Cd10.r.r.r.r.l.r.l.l.l.l.ops) (by kernel_rfl) ?_
        refine EL.quick 5 [0, 1, 2, 3, 9, 10, 11, 12, 31] [(0, .int .u8 a5), (1, .int .u8 a6), (2, .int .u8 a7), (3, .int .u8 a8), (9, .pointer (some ⟨g2694, 0, none⟩)), (10, .pointer (some ⟨g2702, 0, none⟩)), (11, .pointer (some ⟨g2703, 0, none⟩)), (12, .int .i64 x4752), (31, .bool (decide (x4752 < (IntKind.i64.wrap (Int.tmod a6 20)))))] (by kernel_rfl) ?_
        refine EL.done (by kernel_rfl) ?_
        refine EQ.code ?_
        refine EW.condP (o := (.tmp 31)) (x := Cd10.r.r.r.r.l.r.l.l.l.r.l) (y := Cd10.r.r.r.r.l.r.l.l.l.r.r) (x4752 < (IntKind.i64.wrap (Int.tmod a6 20))) (by kernel_rfl) (by kernel_rfl) (fun h5046 => ?_) (fun h5046 => ?_)
        · rw [if_pos h5046] at H
          refine EW.skip (by kernel_rfl) ?_
          refine EQ.code ?_
          obtain ⟨j5234, hj5234, H⟩ := lt_out H
          refine EW.cut (x := Cd10.r.r.r.r.l.r.l.l.r.l) (y := Cd10.r.r.r.r.l.r.l.l.r.r) (fun a w => ∃ x5229 : List (List S69), ∃ x5232 : Int, ∃ x5233 : Int, ∃ A5230 : Option Addr, ∃ C5231 : Nat, Sat 92 [(0, .int .u8 a5), (1, .int .u8 a6), (2, .int .u8 a7), (3, .int .u8 a8), (9, .pointer (some ⟨g2694, 0, none⟩)), (10, .pointer (some ⟨g2702, 0, none⟩)), (11, .pointer (some ⟨g2703, 0, none⟩)), (12, .int .i64 x4752)] a ∧ St B w (Ass.box 95 g2694 [.slice A5230 x5229.length C5231, .slice A2697 t2693.length C2698] :: Ass.deep 76 69 kS69 A5230 C5231 x5229 :: Ass.own 3 (Kd.int .i64) A2697 C2698 t2693 :: Ass.box 3 g2703 [.int .i64 x5232] :: Ass.box 3 g2702 [.int .i64 x5233] :: os) (Ro.sl (Kd.int .i64) (some ⟨g2690, 0, none⟩) 2 l2691 :: Ro.sl (Kd.int .i64) (some ⟨g2690, 0, none⟩) 2 l2691 :: rs) ∧ j5234 x5229 x5232 x5233 = some x2669) (by kernel_rfl) ?_ (fun a w hI => ?_)
          · refine EW.block (x := Cd10.r.r.r.r.l.r.l.l.r.l.l) (id := 1) (by kernel_rfl) ?_
            refine EW.seq (x := Cd10.r.r.r.r.l.r.l.l.r.l.l.l) (y := Cd10.r.r.r.r.l.r.l.l.r.l.l.r) (by kernel_rfl) ?_
            refine EW.region (id := 8) (ops := Cd10.r.r.r.r.l.r.l.l.r.l.l.l.ops) (by kernel_rfl) ?_
            refine EL.quick 3 [0, 1, 2, 3, 9, 10, 11, 12, 34, 36] [(0, .int .u8 a5), (1, .int .u8 a6), (2, .int .u8 a7), (3, .int .u8 a8), (9, .pointer (some ⟨g2694, 0, none⟩)), (10, .pointer (some ⟨g2702, 0, none⟩)), (11, .pointer (some ⟨g2703, 0, none⟩)), (12, .int .i64 x4752), (34, .int .u8 a7), (36, .int .i64 (Int.tmod x4752 8))] (by kernel_rfl) ?_
            obtain ⟨h5236, H⟩ := ite_out H
            refine EL.of (EO.Y (YO.shift .shr .u8 .i64 a7 (Int.tmod x4752 8) (sR .u8 a7 (Int.tmod x4752 8)) 37 (by kernel_rfl) (by kernel_rfl) (by kernel_rfl) h5236 (by first | exact .inl ⟨rfl, rfl⟩ | exact .inr ⟨rfl, rfl⟩)) ?_)
            refine EL.quick 3 [0, 1, 2, 3, 9, 10, 11, 12, 13] [(0, .int .u8 a5), (1, .int .u8 a6), (2, .int .u8 a7), (3, .int .u8 a8), (9, .pointer (some ⟨g2694, 0, none⟩)), (10, .pointer (some ⟨g2702, 0, none⟩)), (11, .pointer (some ⟨g2703, 0, none⟩)), (12, .int .i64 x4752), (13, .int .i64 (bA .i64 (IntKind.i64.wrap (sR .u8 a7 (Int.tmod x4752 8))) 1))] (by kernel_rfl) ?_
            refine EL.done (by kernel_rfl) ?_
            refine EQ.code ?_
            refine EW.seq (x := Cd10.r.r.r.r.l.r.l.l.r.l.l.r.l) (y := Cd10.r.r.r.r.l.r.l.l.r.l.l.r.r) (by kernel_rfl) ?_
            refine EW.region (id := 9) (ops := Cd10.r.r.r.r.l.r.l.l.r.l.l.r.l.ops) (by kernel_rfl) ?_
            refine EL.quick 7 [0, 1, 2, 3, 9, 10, 11, 12, 13, 41, 42, 45, 47] [(0, .int .u8 a5), (1, .int .u8 a6), (2, .int .u8 a7), (3, .int .u8 a8), (9, .pointer (some ⟨g2694, 0, none⟩)), (10, .pointer (some ⟨g2702, 0, none⟩)), (11, .pointer (some ⟨g2703, 0, none⟩)), (12, .int .i64 x4752), (13, .int .i64 (bA .i64 (IntKind.i64.wrap (sR .u8 a7 (Int.tmod x4752 8))) 1)), (41, .pointer (some ⟨g2694, 0, none⟩)), (42, .int .i64 (bA .i64 (IntKind.i64.wrap (sR .u8 a7 (Int.tmod x4752 8))) 1)), (45, .int .i64 (IntKind.i64.wrap (Int.tmod a8 16))), (47, .int .i32 (IntKind.i32.wrap x4752))] (by kernel_rfl) ?_
            have hS : St B _ (Ass.box 95 g2694 [.slice A4750 x4749.length C4751, .slice A2697 t2693.length C2698] :: Ass.deep 76 69 kS69 A4750 C4751 x4749 :: Ass.own 3 (Kd.int .i64) A2697 C2698 t2693 :: Ass.box 3 g2703 [.int .i64 x4747] :: Ass.box 3 g2702 [.int .i64 x4748] :: os) (Ro.sl (Kd.int .i64) (some ⟨g2690, 0, none⟩) 2 l2691 :: Ro.sl (Kd.int .i64) (some ⟨g2690, 0, none⟩) 2 l2691 :: rs) := hS.re [4, 4, 4] [] rfl sub_self
            obtain ⟨t5243, t5244, t5245, hc5248, H⟩ := b3_out H
            refine EL.of (EO.callD 36 [.pointer (some ⟨g2694, 0, none⟩), .int .i64 (bA .i64 (IntKind.i64.wrap (sR .u8 a7 (Int.tmod x4752 8))) 1), .int .i64 (IntKind.i64.wrap (Int.tmod a8 16)), .int .i32 (IntKind.i32.wrap x4752)] _ 48 (by kernel_rfl) (by kernel_rfl) (by kernel_rfl) (arena_Arena_Make.calls hc5248 hS) ?_)
            rintro v w ⟨A5246, C5247, rfl, hS⟩
            refine EL.quick 5 [0, 1, 2, 3, 9, 10, 11, 12, 13, 14, 15] [(0, .int .u8 a5), (1, .int .u8 a6), (2, .int .u8 a7), (3, .int .u8 a8), (9, .pointer (some ⟨g2694, 0, none⟩)), (10, .pointer (some ⟨g2702, 0, none⟩)), (11, .pointer (some ⟨g2703, 0, none⟩)), (12, .int .i64 x4752), (13, .int .i64 (bA .i64 (IntKind.i64.wrap (sR .u8 a7 (Int.tmod x4752 8))) 1)), (14, .int .i32 t5244), (15, .bool (t5245))] (by kernel_rfl) ?_
            refine EL.done (by kernel_rfl) ?_
            refine EQ.code ?_
            refine EW.seq (x := Cd10.r.r.r.r.l.r.l.l.r.l.l.r.r.l) (y := Cd10.r.r.r.r.l.r.l.l.r.l.l.r.r.r) (by kernel_rfl) ?_
            refine EW.region (id := 10) (ops := Cd10.r.r.r.r.l.r.l.l.r.l.l.r.r.l.ops) (by kernel_rfl) ?_
            refine EL.quick 1 [0, 1, 2, 3, 9, 10, 11, 12, 13, 14, 15, 16] [(0, .int .u8 a5), (1, .int .u8 a6), (2, .int .u8 a7), (3, .int .u8 a8), (9, .pointer (some ⟨g2694, 0, none⟩)), (10, .pointer (some ⟨g2702, 0, none⟩)), (11, .pointer (some ⟨g2703, 0, none⟩)), (12, .int .i64 x4752), (13, .int .i64 (bA .i64 (IntKind.i64.wrap (sR .u8 a7 (Int.tmod x4752 8))) 1)), (14, .int .i32 t5244), (15, .bool (t5245)), (16, .pointer (some ⟨g2702, 0, none⟩))] (by kernel_rfl) ?_
            refine EL.done (by kernel_rfl) ?_
            refine EQ.code ?_
            refine EW.seq (x := Cd10.r.r.r.r.l.r.l.l.r.l.l.r.r.r.l) (y := Cd10.r.r.r.r.l.r.l.l.r.l.l.r.r.r.r) (by kernel_rfl) ?_
            refine EW.seq (x := Cd10.r.r.r.r.l.r.l.l.r.l.l.r.r.r.l.l) (y := Cd10.r.r.r.r.l.r.l.l.r.l.l.r.r.r.l.r) (by kernel_rfl) ?_
            refine EW.region (id := 11) (ops := Cd10.r.r.r.r.l.r.l.l.r.l.l.r.r.r.l.l.ops) (by kernel_rfl) ?_
            refine EL.quick 2 [0, 1, 2, 3, 9, 10, 11, 12, 13, 14, 15, 16, 52] [(0, .int .u8 a5), (1, .int .u8 a6), (2, .int .u8 a7), (3, .int .u8 a8), (9, .pointer (some ⟨g2694, 0, none⟩)), (10, .pointer (some ⟨g2702, 0, none⟩)), (11, .pointer (some ⟨g2703, 0, none⟩)), (12, .int .i64 x4752), (13, .int .i64 (bA .i64 (IntKind.i64.wrap (sR .u8 a7 (Int.tmod x4752 8))) 1)), (14, .int .i32 t5244), (15, .bool (t5245)), (16, .pointer (some ⟨g2702, 0, none⟩)), (52, .bool (decide ((bA .i64 (IntKind.i64.wrap (sR .u8 a7 (Int.tmod x4752 8))) 1) = 1)))] (by kernel_rfl) ?_
            refine EL.done (by kernel_rfl) ?_
            refine EQ.code ?_
            refine EW.condP (o := (.tmp 52)) (x := Cd10.r.r.r.r.l.r.l.l.r.l.l.r.r.r.l.r.l) (y := Cd10.r.r.r.r.l.r.l.l.r.l.l.r.r.r.l.r.r) ((bA .i64 (IntKind.i64.wrap (sR .u8 a7 (Int.tmod x4752 8))) 1) = 1) (by kernel_rfl) (by kernel_rfl) (fun h5250 => ?_) (fun h5250 => ?_)
            · rw [if_pos h5250] at H
              refine EW.region (id := 12) (ops := Cd10.r.r.r.r.l.r.l.l.r.l.l.r.r.r.l.r.l.ops) (by kernel_rfl) ?_
              refine EL.quick 1 [0, 1, 2, 3, 9, 10, 11, 12, 13, 14, 15, 16] [(0, .int .u8 a5), (1, .int .u8 a6), (2, .int .u8 a7), (3, .int .u8 a8), (9, .pointer (some ⟨g2694, 0, none⟩)), (10, .pointer (some ⟨g2702, 0, none⟩)), (11, .pointer (some ⟨g2703, 0, none⟩)), (12, .int .i64 x4752), (13, .int .i64 (bA .i64 (IntKind.i64.wrap (sR .u8 a7 (Int.tmod x4752 8))) 1)), (14, .int .i32 t5244), (15, .bool (t5245)), (16, .pointer (some ⟨g2703, 0, none⟩))] (by kernel_rfl) ?_
              refine EL.done (by kernel_rfl) ?_
              refine EQ.code ?_
              refine EW.seq (x := Cd10.r.r.r.r.l.r.l.l.r.l.l.r.r.r.r.l) (y := Cd10.r.r.r.r.l.r.l.l.r.l.l.r.r.r.r.r) (by kernel_rfl) ?_
              obtain ⟨j5281, hj5281, H⟩ := lt_out H
              refine EW.cut (x := Cd10.r.r.r.r.l.r.l.l.r.l.l.r.r.r.r.l.l) (y := Cd10.r.r.r.r.l.r.l.l.r.l.l.r.r.r.r.l.r) (fun a w => ∃ x5279 : Bool, ∃ x5280 : Bool, Sat 92 [(0, .int .u8 a5), (1, .int .u8 a6), (2, .int .u8 a7), (3, .int .u8 a8), (9, .pointer (some ⟨g2694, 0, none⟩)), (10, .pointer (some ⟨g2702, 0, none⟩)), (11, .pointer (some ⟨g2703, 0, none⟩)), (12, .int .i64 x4752), (15, .bool (x5279)), (16, .pointer (some ⟨g2703, 0, none⟩)), (75, .bool (x5280))] a ∧ St B w (Ass.box 95 g2694 [.slice A5246 t5243.length C5247, .slice A2697 t2693.length C2698] :: Ass.deep 76 69 kS69 A5246 C5247 t5243 :: Ass.own 3 (Kd.int .i64) A2697 C2698 t2693 :: Ass.box 3 g2703 [.int .i64 x4747] :: Ass.box 3 g2702 [.int .i64 x4748] :: os) (Ro.sl (Kd.int .i64) (some ⟨g2690, 0, none⟩) 2 l2691 :: Ro.sl (Kd.int .i64) (some ⟨g2690, 0, none⟩) 2 l2691 :: rs) ∧ j5281 x5279 x5280 = some x2669) (by kernel_rfl) ?_ (fun a w hI => ?_)
              · refine EW.region (id := 13) (ops := Cd10.r.r.r.r.l.r.l.l.r.l.l.r.r.r.r.l.l.ops) (by kernel_rfl) ?_
                refine EL.quick 3 [0, 1, 2, 3, 9, 10, 11, 12, 13, 14, 15, 16, 53, 55] [(0, .int .u8 a5), (1, .int .u8 a6), (2, .int .u8 a7), (3, .int .u8 a8), (9, .pointer (some ⟨g2694, 0, none⟩)), (10, .pointer (some ⟨g2702, 0, none⟩)), (11, .pointer (some ⟨g2703, 0, none⟩)), (12, .int .i64 x4752), (13, .int .i64 (bA .i64 (IntKind.i64.wrap (sR .u8 a7 (Int.tmod x4752 8))) 1)), (14, .int .i32 t5244), (15, .bool (t5245)), (16, .pointer (some ⟨g2703, 0, none⟩)), (53, .bool (t5245)), (55, .pointer (some ⟨g2703, 0, none⟩))] (by kernel_rfl) ?_
                refine EL.of (EO.Y (YO.loadBox hS 3 rfl 3 0 1 (.int .i64 x4747) 56 (by kernel_rfl) (by kernel_rfl) (by kernel_rfl) (by kernel_rfl)) ?_)
                refine EL.quick 6 [0, 1, 2, 3, 9, 10, 11, 12, 13, 14, 15, 16, 62] [(0, .int .u8 a5), (1, .int .u8 a6), (2, .int .u8 a7), (3, .int .u8 a8), (9, .pointer (some ⟨g2694, 0, none⟩)), (10, .pointer (some ⟨g2702, 0, none⟩)), (11, .pointer (some ⟨g2703, 0, none⟩)), (12, .int .i64 x4752), (13, .int .i64 (bA .i64 (IntKind.i64.wrap (sR .u8 a7 (Int.tmod x4752 8))) 1)), (14, .int .i32 t5244), (15, .bool (t5245)), (16, .pointer (some ⟨g2703, 0, none⟩)), (62, .bool (!((t5245 == (decide (x4747 < (IntKind.i64.wrap (Int.tmod a5 9))))))))] (by kernel_rfl) ?_
                by_cases h5282 : (t5245 == (decide (x4747 < (IntKind.i64.wrap (Int.tmod a5 9))))) = true
                · rw [if_pos h5282] at H
                  refine EL.keep [0, 1, 2, 3, 9, 10, 11, 12, 13, 14, 15, 16, 62] [(0, .int .u8 a5), (1, .int .u8 a6), (2, .int .u8 a7), (3, .int .u8 a8), (9, .pointer (some ⟨g2694, 0, none⟩)), (10, .pointer (some ⟨g2702, 0, none⟩)), (11, .pointer (some ⟨g2703, 0, none⟩)), (12, .int .i64 x4752), (13, .int .i64 (bA .i64 (IntKind.i64.wrap (sR .u8 a7 (Int.tmod x4752 8))) 1)), (14, .int .i32 t5244), (15, .bool (t5245)), (16, .pointer (some ⟨g2703, 0, none⟩)), (62, .bool (!((t5245 == (decide (x4747 < (IntKind.i64.wrap (Int.tmod a5 9))))))))] (by kernel_rfl) ?_
                  refine EL.as' [(0, .int .u8 a5), (1, .int .u8 a6), (2, .int .u8 a7), (3, .int .u8 a8), (9, .pointer (some ⟨g2694, 0, none⟩)), (10, .pointer (some ⟨g2702, 0, none⟩)), (11, .pointer (some ⟨g2703, 0, none⟩)), (12, .int .i64 x4752), (13, .int .i64 (bA .i64 (IntKind.i64.wrap (sR .u8 a7 (Int.tmod x4752 8))) 1)), (14, .int .i32 t5244), (15, .bool (t5245)), (16, .pointer (some ⟨g2703, 0, none⟩)), (62, .bool (false))] (by simp only [h5282, Bool.not_true, Bool.not_false]) ?_
                  refine EL.quick 2 [0, 1, 2, 3, 9, 10, 11, 12, 13, 14, 15, 16, 62, 63, 64] [(0, .int .u8 a5), (1, .int .u8 a6), (2, .int .u8 a7), (3, .int .u8 a8), (9, .pointer (some ⟨g2694, 0, none⟩)), (10, .pointer (some ⟨g2702, 0, none⟩)), (11, .pointer (some ⟨g2703, 0, none⟩)), (12, .int .i64 x4752), (13, .int .i64 (bA .i64 (IntKind.i64.wrap (sR .u8 a7 (Int.tmod x4752 8))) 1)), (14, .int .i32 t5244), (15, .bool (t5245)), (16, .pointer (some ⟨g2703, 0, none⟩)), (62, .bool (false)), (63, .bool (t5245)), (64, .bool (t5245))] (by kernel_rfl) ?_
                  by_cases h5283 : t5245 = true
                  · rw [if_pos h5283] at H
                    refine EL.keep [0, 1, 2, 3, 9, 10, 11, 12, 13, 14, 15, 16, 62, 63, 64] [(0, .int .u8 a5), (1, .int .u8 a6), (2, .int .u8 a7), (3, .int .u8 a8), (9, .pointer (some ⟨g2694, 0, none⟩)), (10, .pointer (some ⟨g2702, 0, none⟩)), (11, .pointer (some ⟨g2703, 0, none⟩)), (12, .int .i64 x4752), (13, .int .i64 (bA .i64 (IntKind.i64.wrap (sR .u8 a7 (Int.tmod x4752 8))) 1)), (14, .int .i32 t5244), (15, .bool (t5245)), (16, .pointer (some ⟨g2703, 0, none⟩)), (62, .bool (false)), (63, .bool (t5245)), (64, .bool (t5245))] (by kernel_rfl) ?_
                    refine EL.as' [(0, .int .u8 a5), (1, .int .u8 a6), (2, .int .u8 a7), (3, .int .u8 a8), (9, .pointer (some ⟨g2694, 0, none⟩)), (10, .pointer (some ⟨g2702, 0, none⟩)), (11, .pointer (some ⟨g2703, 0, none⟩)), (12, .int .i64 x4752), (13, .int .i64 (bA .i64 (IntKind.i64.wrap (sR .u8 a7 (Int.tmod x4752 8))) 1)), (14, .int .i32 t5244), (15, .bool (true)), (16, .pointer (some ⟨g2703, 0, none⟩)), (62, .bool (false)), (63, .bool (true)), (64, .bool (true))] (by simp only [h5283, Bool.not_true, Bool.not_false]) ?_
                    refine EL.quick 6 [0, 1, 2, 3, 9, 10, 11, 12, 15, 16, 62, 63, 64, 65, 66, 67, 68, 69, 70] [(0, .int .u8 a5), (1, .int .u8 a6), (2, .int .u8 a7), (3, .int .u8 a8), (9, .pointer (some ⟨g2694, 0, none⟩)), (10, .pointer (some ⟨g2702, 0, none⟩)), (11, .pointer (some ⟨g2703, 0, none⟩)), (12, .int .i64 x4752), (15, .bool (true)), (16, .pointer (some ⟨g2703, 0, none⟩)), (62, .bool (false)), (63, .bool (true)), (64, .bool (true)), (65, .int .i32 t5244), (66, .int .i64 (IntKind.i64.wrap t5244)), (67, .int .i64 (bA .i64 (IntKind.i64.wrap (sR .u8 a7 (Int.tmod x4752 8))) 1)), (68, .int .i64 (IntKind.i64.wrap ((bA .i64 (IntKind.i64.wrap (sR .u8 a7 (Int.tmod x4752 8))) 1) * 65536))), (69, .pointer (some ⟨g2703, 0, none⟩)), (70, .pointer (some ⟨g2703, 0, none⟩))] (by kernel_rfl) ?_
                    refine EL.of (EO.Y (YO.loadBox hS 3 rfl 3 0 1 (.int .i64 x4747) 71 (by kernel_rfl) (by kernel_rfl) (by kernel_rfl) (by kernel_rfl)) ?_)
                    refine EL.quick 4 [0, 1, 2, 3, 9, 10, 11, 12, 15, 16, 63, 64, 65, 66, 67, 68, 69, 70, 71, 72, 73, 74, 75] [(0, .int .u8 a5), (1, .int .u8 a6), (2, .int .u8 a7), (3, .int .u8 a8), (9, .pointer (some ⟨g2694, 0, none⟩)), (10, .pointer (some ⟨g2702, 0, none⟩)), (11, .pointer (some ⟨g2703, 0, none⟩)), (12, .int .i64 x4752), (15, .bool (true)), (16, .pointer (some ⟨g2703, 0, none⟩)), (63, .bool (true)), (64, .bool (true)), (65, .int .i32 t5244), (66, .int .i64 (IntKind.i64.wrap t5244)), (67, .int .i64 (bA .i64 (IntKind.i64.wrap (sR .u8 a7 (Int.tmod x4752 8))) 1)), (68, .int .i64 (IntKind.i64.wrap ((bA .i64 (IntKind.i64.wrap (sR .u8 a7 (Int.tmod x4752 8))) 1) * 65536))), (69, .pointer (some ⟨g2703, 0, none⟩)), (70, .pointer (some ⟨g2703, 0, none⟩)), (71, .int .i64 x4747), (72, .int .i64 (IntKind.i64.wrap ((IntKind.i64.wrap ((bA .i64 (IntKind.i64.wrap (sR .u8 a7 (Int.tmod x4752 8))) 1) * 65536)) + x4747))), (73, .bool (!(decide ((IntKind.i64.wrap t5244) = (IntKind.i64.wrap ((IntKind.i64.wrap ((bA .i64 (IntKind.i64.wrap (sR .u8 a7 (Int.tmod x4752 8))) 1) * 65536)) + x4747)))))), (74, .bool (!(decide ((IntKind.i64.wrap t5244) = (IntKind.i64.wrap ((IntKind.i64.wrap ((bA .i64 (IntKind.i64.wrap (sR .u8 a7 (Int.tmod x4752 8))) 1) * 65536)) + x4747)))))), (75, .bool (!(decide ((IntKind.i64.wrap t5244) = (IntKind.i64.wrap ((IntKind.i64.wrap ((bA .i64 (IntKind.i64.wrap (sR .u8 a7 (Int.tmod x4752 8))) 1) * 65536)) + x4747))))))] (by kernel_rfl) ?_
                    obtain ⟨y5284, hy5284, H⟩ := lt_out H
                    obtain ⟨y5285, hy5285, H⟩ := lt_out H
                    refine EL.keep [0, 1, 2, 3, 9, 10, 11, 12, 15, 16, 63, 64, 65, 66, 67, 68, 69, 70, 71, 72, 73, 74, 75] [(0, .int .u8 a5), (1, .int .u8 a6), (2, .int .u8 a7), (3, .int .u8 a8), (9, .pointer (some ⟨g2694, 0, none⟩)), (10, .pointer (some ⟨g2702, 0, none⟩)), (11, .pointer (some ⟨g2703, 0, none⟩)), (12, .int .i64 x4752), (15, .bool (true)), (16, .pointer (some ⟨g2703, 0, none⟩)), (63, .bool (true)), (64, .bool (true)), (65, .int .i32 t5244), (66, .int .i64 (IntKind.i64.wrap t5244)), (67, .int .i64 (bA .i64 (IntKind.i64.wrap (sR .u8 a7 (Int.tmod x4752 8))) 1)), (68, .int .i64 (IntKind.i64.wrap ((bA .i64 (IntKind.i64.wrap (sR .u8 a7 (Int.tmod x4752 8))) 1) * 65536))), (69, .pointer (some ⟨g2703, 0, none⟩)), (70, .pointer (some ⟨g2703, 0, none⟩)), (71, .int .i64 x4747), (72, .int .i64 (IntKind.i64.wrap ((IntKind.i64.wrap ((bA .i64 (IntKind.i64.wrap (sR .u8 a7 (Int.tmod x4752 8))) 1) * 65536)) + x4747))), (73, .bool (!(decide ((IntKind.i64.wrap t5244) = (IntKind.i64.wrap ((IntKind.i64.wrap ((bA .i64 (IntKind.i64.wrap (sR .u8 a7 (Int.tmod x4752 8))) 1) * 65536)) + x4747)))))), (74, .bool (!(decide ((IntKind.i64.wrap t5244) = (IntKind.i64.wrap ((IntKind.i64.wrap ((bA .i64 (IntKind.i64.wrap (sR .u8 a7 (Int.tmod x4752 8))) 1) * 65536)) + x4747)))))), (75, .bool (!(decide ((IntKind.i64.wrap t5244) = (IntKind.i64.wrap ((IntKind.i64.wrap ((bA .i64 (IntKind.i64.wrap (sR .u8 a7 (Int.tmod x4752 8))) 1) * 65536)) + x4747))))))] (by kernel_rfl) ?_
                    refine EL.as' [(0, .int .u8 a5), (1, .int .u8 a6), (2, .int .u8 a7), (3, .int .u8 a8), (9, .pointer (some ⟨g2694, 0, none⟩)), (10, .pointer (some ⟨g2702, 0, none⟩)), (11, .pointer (some ⟨g2703, 0, none⟩)), (12, .int .i64 x4752), (15, .bool (true)), (16, .pointer (some ⟨g2703, 0, none⟩)), (63, .bool (true)), (64, .bool (true)), (65, .int .i32 t5244), (66, .int .i64 (IntKind.i64.wrap t5244)), (67, .int .i64 (bA .i64 (IntKind.i64.wrap (sR .u8 a7 (Int.tmod x4752 8))) 1)), (68, .int .i64 y5284), (69, .pointer (some ⟨g2703, 0, none⟩)), (70, .pointer (some ⟨g2703, 0, none⟩)), (71, .int .i64 x4747), (72, .int .i64 y5285), (73, .bool (!(decide ((IntKind.i64.wrap t5244) = (IntKind.i64.wrap ((IntKind.i64.wrap ((bA .i64 (IntKind.i64.wrap (sR .u8 a7 (Int.tmod x4752 8))) 1) * 65536)) + x4747)))))), (74, .bool (!(decide ((IntKind.i64.wrap t5244) = (IntKind.i64.wrap ((IntKind.i64.wrap ((bA .i64 (IntKind.i64.wrap (sR .u8 a7 (Int.tmod x4752 8))) 1) * 65536)) + x4747)))))), (75, .bool (!(decide ((IntKind.i64.wrap t5244) = (IntKind.i64.wrap ((IntKind.i64.wrap ((bA .i64 (IntKind.i64.wrap (sR .u8 a7 (Int.tmod x4752 8))) 1) * 65536)) + x4747))))))] (by subst hy5284; subst hy5285; rfl) ?_
                    refine EL.done (by kernel_rfl) ?_
                    refine EQ.to ?_
                    refine EQ.keep [0, 1, 2, 3, 9, 10, 11, 12, 15, 16, 75] [(0, .int .u8 a5), (1, .int .u8 a6), (2, .int .u8 a7), (3, .int .u8 a8), (9, .pointer (some ⟨g2694, 0, none⟩)), (10, .pointer (some ⟨g2702, 0, none⟩)), (11, .pointer (some ⟨g2703, 0, none⟩)), (12, .int .i64 x4752), (15, .bool (true)), (16, .pointer (some ⟨g2703, 0, none⟩)), (75, .bool (!(decide ((IntKind.i64.wrap t5244) = (IntKind.i64.wrap ((IntKind.i64.wrap ((bA .i64 (IntKind.i64.wrap (sR .u8 a7 (Int.tmod x4752 8))) 1) * 65536)) + x4747))))))] (by kernel_rfl) ?_
                    exact fun a ha => ⟨true, !(decide ((IntKind.i64.wrap t5244) = (IntKind.i64.wrap ((IntKind.i64.wrap ((bA .i64 (IntKind.i64.wrap (sR .u8 a7 (Int.tmod x4752 8))) 1) * 65536)) + x4747)))), ha, (hS.re [4, 4, 4, 4, 4] [] rfl (sub_cons 0 rfl (sub_cons 0 rfl (sub_tail (sub_tail (sub_self)))))), H⟩
                  · rw [if_neg h5283] at H
                    refine EL.keep [0, 1, 2, 3, 9, 10, 11, 12, 13, 14, 15, 16, 62, 63, 64] [(0, .int .u8 a5), (1, .int .u8 a6), (2, .int .u8 a7), (3, .int .u8 a8), (9, .pointer (some ⟨g2694, 0, none⟩)), (10, .pointer (some ⟨g2702, 0, none⟩)), (11, .pointer (some ⟨g2703, 0, none⟩)), (12, .int .i64 x4752), (13, .int .i64 (bA .i64 (IntKind.i64.wrap (sR .u8 a7 (Int.tmod x4752 8))) 1)), (14, .int .i32 t5244), (15, .bool (t5245)), (16, .pointer (some ⟨g2703, 0, none⟩)), (62, .bool (false)), (63, .bool (t5245)), (64, .bool (t5245))] (by kernel_rfl) ?_
                    refine EL.as' [(0, .int .u8 a5), (1, .int .u8 a6), (2, .int .u8 a7), (3, .int .u8 a8), (9, .pointer (some ⟨g2694, 0, none⟩)), (10, .pointer (some ⟨g2702, 0, none⟩)), (11, .pointer (some ⟨g2703, 0, none⟩)), (12, .int .i64 x4752), (13, .int .i64 (bA .i64 (IntKind.i64.wrap (sR .u8 a7 (Int.tmod x4752 8))) 1)), (14, .int .i32 t5244), (15, .bool (false)), (16, .pointer (some ⟨g2703, 0, none⟩)), (62, .bool (false)), (63, .bool (false)), (64, .bool (false))] (by simp only [(Bool.eq_false_iff.2 h5283), Bool.not_true, Bool.not_false]) ?_
                    refine EL.quick 11 [0, 1, 2, 3, 9, 10, 11, 12, 15, 16, 63, 64, 74, 75] [(0, .int .u8 a5), (1, .int .u8 a6), (2, .int .u8 a7), (3, .int .u8 a8), (9, .pointer (some ⟨g2694, 0, none⟩)), (10, .pointer (some ⟨g2702, 0, none⟩)), (11, .pointer (some ⟨g2703, 0, none⟩)), (12, .int .i64 x4752), (15, .bool (false)), (16, .pointer (some ⟨g2703, 0, none⟩)), (63, .bool (false)), (64, .bool (false)), (74, .bool (false)), (75, .bool (false))] (by kernel_rfl) ?_
                    refine EL.done (by kernel_rfl) ?_
                    refine EQ.to ?_
                    refine EQ.keep [0, 1, 2, 3, 9, 10, 11, 12, 15, 16, 75] [(0, .int .u8 a5), (1, .int .u8 a6), (2, .int .u8 a7), (3, .int .u8 a8), (9, .pointer (some ⟨g2694, 0, none⟩)), (10, .pointer (some ⟨g2702, 0, none⟩)), (11, .pointer (some ⟨g2703, 0, none⟩)), (12, .int .i64 x4752), (15, .bool (false)), (16, .pointer (some ⟨g2703, 0, none⟩)), (75, .bool (false))] (by kernel_rfl) ?_
                    exact fun a ha => ⟨false, false, ha, (hS.re [4, 4, 4, 4, 4] [] rfl (sub_cons 0 rfl (sub_cons 0 rfl (sub_tail (sub_tail (sub_self)))))), H⟩
                · rw [if_neg h5282] at H
                  refine EL.keep [0, 1, 2, 3, 9, 10, 11, 12, 13, 14, 15, 16, 62] [(0, .int .u8 a5), (1, .int .u8 a6), (2, .int .u8 a7), (3, .int .u8 a8), (9, .pointer (some ⟨g2694, 0, none⟩)), (10, .pointer (some ⟨g2702, 0, none⟩)), (11, .pointer (some ⟨g2703, 0, none⟩)), (12, .int .i64 x4752), (13, .int .i64 (bA .i64 (IntKind.i64.wrap (sR .u8 a7 (Int.tmod x4752 8))) 1)), (14, .int .i32 t5244), (15, .bool (t5245)), (16, .pointer (some ⟨g2703, 0, none⟩)), (62, .bool (!((t5245 == (decide (x4747 < (IntKind.i64.wrap (Int.tmod a5 9))))))))] (by kernel_rfl) ?_
                  refine EL.as' [(0, .int .u8 a5), (1, .int .u8 a6), (2, .int .u8 a7), (3, .int .u8 a8), (9, .pointer (some ⟨g2694, 0, none⟩)), (10, .pointer (some ⟨g2702, 0, none⟩)), (11, .pointer (some ⟨g2703, 0, none⟩)), (12, .int .i64 x4752), (13, .int .i64 (bA .i64 (IntKind.i64.wrap (sR .u8 a7 (Int.tmod x4752 8))) 1)), (14, .int .i32 t5244), (15, .bool (t5245)), (16, .pointer (some ⟨g2703, 0, none⟩)), (62, .bool (true))] (by simp only [(Bool.eq_false_iff.2 h5282), Bool.not_true, Bool.not_false]) ?_
                  refine EL.quick 13 [0, 1, 2, 3, 9, 10, 11, 12, 15, 16, 75] [(0, .int .u8 a5), (1, .int .u8 a6), (2, .int .u8 a7), (3, .int .u8 a8), (9, .pointer (some ⟨g2694, 0, none⟩)), (10, .pointer (some ⟨g2702, 0, none⟩)), (11, .pointer (some ⟨g2703, 0, none⟩)), (12, .int .i64 x4752), (15, .bool (t5245)), (16, .pointer (some ⟨g2703, 0, none⟩)), (75, .bool (true))] (by kernel_rfl) ?_
                  refine EL.done (by kernel_rfl) ?_
                  refine EQ.to ?_
                  refine EQ.keep [0, 1, 2, 3, 9, 10, 11, 12, 15, 16, 75] [(0, .int .u8 a5), (1, .int .u8 a6), (2, .int .u8 a7), (3, .int .u8 a8), (9, .pointer (some ⟨g2694, 0, none⟩)), (10, .pointer (some ⟨g2702, 0, none⟩)), (11, .pointer (some ⟨g2703, 0, none⟩)), (12, .int .i64 x4752), (15, .bool (t5245)), (16, .pointer (some ⟨g2703, 0, none⟩)), (75, .bool (true))] (by kernel_rfl) ?_
                  exact fun a ha => ⟨t5245, true, ha, (hS.re [4, 4, 4, 4, 4] [] rfl (sub_cons 0 rfl (sub_cons 0 rfl (sub_tail (sub_tail (sub_self)))))), H⟩
              · obtain ⟨x5279, x5280, ha, hS, H⟩ := hI
                rw [hj5281] at H
                (try dsimp only at H)
                refine EW.at ?_ a ha
                clear ha a
                refine EW.condP' (o := (.tmp 75)) (x := Cd10.r.r.r.r.l.r.l.l.r.l.l.r.r.r.r.l.r.l) (y := Cd10.r.r.r.r.l.r.l.l.r.l.l.r.r.r.r.l.r.r) (x5280) (by kernel_rfl) (by kernel_rfl) (fun h5286 => ?_) (fun h5286 => ?_)
                · rw [if_pos h5286] at H
                  refine EW.seq (x := Cd10.r.r.r.r.l.r.l.l.r.l.l.r.r.r.r.l.r.l.l) (y := Cd10.r.r.r.r.l.r.l.l.r.l.l.r.r.r.r.l.r.l.r) (by kernel_rfl) ?_
                  refine EW.region (id := 14) (ops := Cd10.r.r.r.r.l.r.l.l.r.l.l.r.r.r.r.l.r.l.l.ops) (by kernel_rfl) ?_
                  refine EL.quick 1 [8] [(8, .bool (false))] (by kernel_rfl) ?_
                  refine EL.done (by kernel_rfl) ?_
                  refine EQ.code ?_
                  refine EW.ret (by kernel_rfl) ?_
                  refine EQ.ret ?_
                  refine EQ.ret ?_
                  refine EQ.ret ?_
                  refine EQ.ret ?_
                  refine EQ.ret ?_
                  refine EQ.ret ?_
                  obtain rfl := Option.some.inj H
                  exact EQ.leave (.bool (false)) (by kernel_rfl) ⟨_, rfl, rfl, (hS.re [] [0, 0, 0, 0, 0] rfl (sub_tail (sub_tail (sub_self))))⟩
                · rw [if_neg h5286] at H
                  refine EW.skip (by kernel_rfl) ?_
                  refine EQ.code ?_
                  refine EW.seq (x := Cd10.r.r.r.r.l.r.l.l.r.l.l.r.r.r.r.r.l) (y := Cd10.r.r.r.r.l.r.l.l.r.l.l.r.r.r.r.r.r) (by kernel_rfl) ?_
                  refine EW.region (id := 15) (ops := Cd10.r.r.r.r.l.r.l.l.r.l.l.r.r.r.r.r.l.ops) (by kernel_rfl) ?_
                  refine EL.quick 1 [0, 1, 2, 3, 9, 10, 11, 12, 16, 76] [(0, .int .u8 a5), (1, .int .u8 a6), (2, .int .u8 a7), (3, .int .u8 a8), (9, .pointer (some ⟨g2694, 0, none⟩)), (10, .pointer (some ⟨g2702, 0, none⟩)), (11, .pointer (some ⟨g2703, 0, none⟩)), (12, .int .i64 x4752), (16, .pointer (some ⟨g2703, 0, none⟩)), (76, .bool (x5279))] (by kernel_rfl) ?_
                  refine EL.done (by kernel_rfl) ?_
                  refine EQ.code ?_
                  refine EW.condP' (o := (.tmp 76)) (x := Cd10.r.r.r.r.l.r.l.l.r.l.l.r.r.r.r.r.r.l) (y := Cd10.r.r.r.r.l.r.l.l.r.l.l.r.r.r.r.r.r.r) (x5279) (by kernel_rfl) (by kernel_rfl) (fun h5287 => ?_) (fun h5287 => ?_)
                  · rw [if_pos h5287] at H
                    refine EW.region (id := 16) (ops := Cd10.r.r.r.r.l.r.l.l.r.l.l.r.r.r.r.r.r.l.ops) (by kernel_rfl) ?_
                    refine EL.quick 2 [0, 1, 2, 3, 9, 10, 11, 12, 77, 78] [(0, .int .u8 a5), (1, .int .u8 a6), (2, .int .u8 a7), (3, .int .u8 a8), (9, .pointer (some ⟨g2694, 0, none⟩)), (10, .pointer (some ⟨g2702, 0, none⟩)), (11, .pointer (some ⟨g2703, 0, none⟩)), (12, .int .i64 x4752), (77, .pointer (some ⟨g2703, 0, none⟩)), (78, .pointer (some ⟨g2703, 0, none⟩))] (by kernel_rfl) ?_
                    refine EL.of (EO.Y (YO.loadBox hS 3 rfl 3 0 1 (.int .i64 x4747) 79 (by kernel_rfl) (by kernel_rfl) (by kernel_rfl) (by kernel_rfl)) ?_)
                    refine EL.quick 2 [0, 1, 2, 3, 9, 10, 11, 12, 80, 81] [(0, .int .u8 a5), (1, .int .u8 a6), (2, .int .u8 a7), (3, .int .u8 a8), (9, .pointer (some ⟨g2694, 0, none⟩)), (10, .pointer (some ⟨g2702, 0, none⟩)), (11, .pointer (some ⟨g2703, 0, none⟩)), (12, .int .i64 x4752), (80, .int .i64 (IntKind.i64.wrap (x4747 + 1))), (81, .pointer (some ⟨g2703, 0, none⟩))] (by kernel_rfl) ?_
                    refine EL.of (EO.storeBox (os' := Ass.box 95 g2694 [.slice A5246 t5243.length C5247, .slice A2697 t2693.length C2698] :: Ass.deep 76 69 kS69 A5246 C5247 t5243 :: Ass.own 3 (Kd.int .i64) A2697 C2698 t2693 :: Ass.box 3 g2703 [.int .i64 (IntKind.i64.wrap (x4747 + 1))] :: Ass.box 3 g2702 [.int .i64 x4748] :: os) hS 3 rfl 3 0 (.int .i64 (IntKind.i64.wrap (x4747 + 1))) [.int .i64 (IntKind.i64.wrap (x4747 + 1))] (by kernel_rfl) (by kernel_rfl) (by kernel_rfl) (by kernel_rfl) (by kernel_rfl) (by kernel_rfl) rfl rfl ?_)
                    intro w hS
                    refine EL.done (by kernel_rfl) ?_
                    refine EQ.pop ?_
                    refine EQ.to ?_
                    refine EQ.keep [0, 1, 2, 3, 9, 10, 11, 12] [(0, .int .u8 a5), (1, .int .u8 a6), (2, .int .u8 a7), (3, .int .u8 a8), (9, .pointer (some ⟨g2694, 0, none⟩)), (10, .pointer (some ⟨g2702, 0, none⟩)), (11, .pointer (some ⟨g2703, 0, none⟩)), (12, .int .i64 x4752)] (by kernel_rfl) ?_
                    exact fun a ha => ⟨t5243, IntKind.i64.wrap (x4747 + 1), x4748, A5246, C5247, ha, (hS.re [4, 4, 4, 4, 4] [] rfl (sub_cons 0 rfl (sub_cons 0 rfl (sub_tail (sub_tail (sub_self)))))), H⟩
                  · rw [if_neg h5287] at H
                    refine EW.skip (by kernel_rfl) ?_
                    refine EQ.pop ?_
                    refine EQ.to ?_
                    refine EQ.keep [0, 1, 2, 3, 9, 10, 11, 12] [(0, .int .u8 a5), (1, .int .u8 a6), (2, .int .u8 a7), (3, .int .u8 a8), (9, .pointer (some ⟨g2694, 0, none⟩)), (10, .pointer (some ⟨g2702, 0, none⟩)), (11, .pointer (some ⟨g2703, 0, none⟩)), (12, .int .i64 x4752)] (by kernel_rfl) ?_
                    exact fun a ha => ⟨t5243, x4747, x4748, A5246, C5247, ha, (hS.re [4, 4, 4, 4, 4] [] rfl (sub_cons 0 rfl (sub_cons 0 rfl (sub_tail (sub_tail (sub_self)))))), H⟩
            · rw [if_neg h5250] at H
              refine EW.skip (by kernel_rfl) ?_
              refine EQ.code ?_
              refine EW.seq (x := Cd10.r.r.r.r.l.r.l.l.r.l.l.r.r.r.r.l) (y := Cd10.r.r.r.r.l.r.l.l.r.l.l.r.r.r.r.r) (by kernel_rfl) ?_
              obtain ⟨j5318, hj5318, H⟩ := lt_out H
              refine EW.cut (x := Cd10.r.r.r.r.l.r.l.l.r.l.l.r.r.r.r.l.l) (y := Cd10.r.r.r.r.l.r.l.l.r.l.l.r.r.r.r.l.r) (fun a w => ∃ x5316 : Bool, ∃ x5317 : Bool, Sat 92 [(0, .int .u8 a5), (1, .int .u8 a6), (2, .int .u8 a7), (3, .int .u8 a8), (9, .pointer (some ⟨g2694, 0, none⟩)), (10, .pointer (some ⟨g2702, 0, none⟩)), (11, .pointer (some ⟨g2703, 0, none⟩)), (12, .int .i64 x4752), (15, .bool (x5316)), (16, .pointer (some ⟨g2702, 0, none⟩)), (75, .bool (x5317))] a ∧ St B w (Ass.box 95 g2694 [.slice A5246 t5243.length C5247, .slice A2697 t2693.length C2698] :: Ass.deep 76 69 kS69 A5246 C5247 t5243 :: Ass.own 3 (Kd.int .i64) A2697 C2698 t2693 :: Ass.box 3 g2703 [.int .i64 x4747] :: Ass.box 3 g2702 [.int .i64 x4748] :: os) (Ro.sl (Kd.int .i64) (some ⟨g2690, 0, none⟩) 2 l2691 :: Ro.sl (Kd.int .i64) (some ⟨g2690, 0, none⟩) 2 l2691 :: rs) ∧ j5318 x5316 x5317 = some x2669) (by kernel_rfl) ?_ (fun a w hI => ?_)
              · refine EW.region (id := 13) (ops := Cd10.r.r.r.r.l.r.l.l.r.l.l.r.r.r.r.l.l.ops) (by kernel_rfl) ?_
                refine EL.quick 3 [0, 1, 2, 3, 9, 10, 11, 12, 13, 14, 15, 16, 53, 55] [(0, .int .u8 a5), (1, .int .u8 a6), (2, .int .u8 a7), (3, .int .u8 a8), (9, .pointer (some ⟨g2694, 0, none⟩)), (10, .pointer (some ⟨g2702, 0, none⟩)), (11, .pointer (some ⟨g2703, 0, none⟩)), (12, .int .i64 x4752), (13, .int .i64 (bA .i64 (IntKind.i64.wrap (sR .u8 a7 (Int.tmod x4752 8))) 1)), (14, .int .i32 t5244), (15, .bool (t5245)), (16, .pointer (some ⟨g2702, 0, none⟩)), (53, .bool (t5245)), (55, .pointer (some ⟨g2702, 0, none⟩))] (by kernel_rfl) ?_
                refine EL.of (EO.Y (YO.loadBox hS 4 rfl 3 0 1 (.int .i64 x4748) 56 (by kernel_rfl) (by kernel_rfl) (by kernel_rfl) (by kernel_rfl)) ?_)
                refine EL.quick 6 [0, 1, 2, 3, 9, 10, 11, 12, 13, 14, 15, 16, 62] [(0, .int .u8 a5), (1, .int .u8 a6), (2, .int .u8 a7), (3, .int .u8 a8), (9, .pointer (some ⟨g2694, 0, none⟩)), (10, .pointer (some ⟨g2702, 0, none⟩)), (11, .pointer (some ⟨g2703, 0, none⟩)), (12, .int .i64 x4752), (13, .int .i64 (bA .i64 (IntKind.i64.wrap (sR .u8 a7 (Int.tmod x4752 8))) 1)), (14, .int .i32 t5244), (15, .bool (t5245)), (16, .pointer (some ⟨g2702, 0, none⟩)), (62, .bool (!((t5245 == (decide (x4748 < (IntKind.i64.wrap (Int.tmod a5 9))))))))] (by kernel_rfl) ?_
                by_cases h5319 : (t5245 == (decide (x4748 < (IntKind.i64.wrap (Int.tmod a5 9))))) = true
                · rw [if_pos h5319] at H
                  refine EL.keep [0, 1, 2, 3, 9, 10, 11, 12, 13, 14, 15, 16, 62] [(0, .int .u8 a5), (1, .int .u8 a6), (2, .int .u8 a7), (3, .int .u8 a8), (9, .pointer (some ⟨g2694, 0, none⟩)), (10, .pointer (some ⟨g2702, 0, none⟩)), (11, .pointer (some ⟨g2703, 0, none⟩)), (12, .int .i64 x4752), (13, .int .i64 (bA .i64 (IntKind.i64.wrap (sR .u8 a7 (Int.tmod x4752 8))) 1)), (14, .int .i32 t5244), (15, .bool (t5245)), (16, .pointer (some ⟨g2702, 0, none⟩)), (62, .bool (!((t5245 == (decide (x4748 < (IntKind.i64.wrap (Int.tmod a5 9))))))))] (by kernel_rfl) ?_
                  refine EL.as' [(0, .int .u8 a5), (1, .int .u8 a6), (2, .int .u8 a7), (3, .int .u8 a8), (9, .pointer (some ⟨g2694, 0, none⟩)), (10, .pointer (some ⟨g2702, 0, none⟩)), (11, .pointer (some ⟨g2703, 0, none⟩)), (12, .int .i64 x4752), (13, .int .i64 (bA .i64 (IntKind.i64.wrap (sR .u8 a7 (Int.tmod x4752 8))) 1)), (14, .int .i32 t5244), (15, .bool (t5245)), (16, .pointer (some ⟨g2702, 0, none⟩)), (62, .bool (false))] (by simp only [h5319, Bool.not_true, Bool.not_false]) ?_
                  refine EL.quick 2 [0, 1, 2, 3, 9, 10, 11, 12, 13, 14, 15, 16, 62, 63, 64] [(0, .int .u8 a5), (1, .int .u8 a6), (2, .int .u8 a7), (3, .int .u8 a8), (9, .pointer (some ⟨g2694, 0, none⟩)), (10, .pointer (some ⟨g2702, 0, none⟩)), (11, .pointer (some ⟨g2703, 0, none⟩)), (12, .int .i64 x4752), (13, .int .i64 (bA .i64 (IntKind.i64.wrap (sR .u8 a7 (Int.tmod x4752 8))) 1)), (14, .int .i32 t5244), (15, .bool (t5245)), (16, .pointer (some ⟨g2702, 0, none⟩)), (62, .bool (false)), (63, .bool (t5245)), (64, .bool (t5245))] (by kernel_rfl) ?_
                  by_cases h5320 : t5245 = true
                  · rw [if_pos h5320] at H
                    refine EL.keep [0, 1, 2, 3, 9, 10, 11, 12, 13, 14, 15, 16, 62, 63, 64] [(0, .int .u8 a5), (1, .int .u8 a6), (2, .int .u8 a7), (3, .int .u8 a8), (9, .pointer (some ⟨g2694, 0, none⟩)), (10, .pointer (some ⟨g2702, 0, none⟩)), (11, .pointer (some ⟨g2703, 0, none⟩)), (12, .int .i64 x4752), (13, .int .i64 (bA .i64 (IntKind.i64.wrap (sR .u8 a7 (Int.tmod x4752 8))) 1)), (14, .int .i32 t5244), (15, .bool (t5245)), (16, .pointer (some ⟨g2702, 0, none⟩)), (62, .bool (false)), (63, .bool (t5245)), (64, .bool (t5245))] (by kernel_rfl) ?_
                    refine EL.as' [(0, .int .u8 a5), (1, .int .u8 a6), (2, .int .u8 a7), (3, .int .u8 a8), (9, .pointer (some ⟨g2694, 0, none⟩)), (10, .pointer (some ⟨g2702, 0, none⟩)), (11, .pointer (some ⟨g2703, 0, none⟩)), (12, .int .i64 x4752), (13, .int .i64 (bA .i64 (IntKind.i64.wrap (sR .u8 a7 (Int.tmod x4752 8))) 1)), (14, .int .i32 t5244), (15, .bool (true)), (16, .pointer (some ⟨g2702, 0, none⟩)), (62, .bool (false)), (63, .bool (true)), (64, .bool (true))] (by simp only [h5320, Bool.not_true, Bool.not_false]) ?_
                    refine EL.quick 6 [0, 1, 2, 3, 9, 10, 11, 12, 15, 16, 62, 63, 64, 65, 66, 67, 68, 69, 70] [(0, .int .u8 a5), (1, .int .u8 a6), (2, .int .u8 a7), (3, .int .u8 a8), (9, .pointer (some ⟨g2694, 0, none⟩)), (10, .pointer (some ⟨g2702, 0, none⟩)), (11, .pointer (some ⟨g2703, 0, none⟩)), (12, .int .i64 x4752), (15, .bool (true)), (16, .pointer (some ⟨g2702, 0, none⟩)), (62, .bool (false)), (63, .bool (true)), (64, .bool (true)), (65, .int .i32 t5244), (66, .int .i64 (IntKind.i64.wrap t5244)), (67, .int .i64 (bA .i64 (IntKind.i64.wrap (sR .u8 a7 (Int.tmod x4752 8))) 1)), (68, .int .i64 (IntKind.i64.wrap ((bA .i64 (IntKind.i64.wrap (sR .u8 a7 (Int.tmod x4752 8))) 1) * 65536))), (69, .pointer (some ⟨g2702, 0, none⟩)), (70, .pointer (some ⟨g2702, 0, none⟩))] (by kernel_rfl) ?_
                    refine EL.of (EO.Y (YO.loadBox hS 4 rfl 3 0 1 (.int .i64 x4748) 71 (by kernel_rfl) (by kernel_rfl) (by kernel_rfl) (by kernel_rfl)) ?_)
                    refine EL.quick 4 [0, 1, 2, 3, 9, 10, 11, 12, 15, 16, 63, 64, 65, 66, 67, 68, 69, 70, 71, 72, 73, 74, 75] [(0, .int .u8 a5), (1, .int .u8 a6), (2, .int .u8 a7), (3, .int .u8 a8), (9, .pointer (some ⟨g2694, 0, none⟩)), (10, .pointer (some ⟨g2702, 0, none⟩)), (11, .pointer (some ⟨g2703, 0, none⟩)), (12, .int .i64 x4752), (15, .bool (true)), (16, .pointer (some ⟨g2702, 0, none⟩)), (63, .bool (true)), (64, .bool (true)), (65, .int .i32 t5244), (66, .int .i64 (IntKind.i64.wrap t5244)), (67, .int .i64 (bA .i64 (IntKind.i64.wrap (sR .u8 a7 (Int.tmod x4752 8))) 1)), (68, .int .i64 (IntKind.i64.wrap ((bA .i64 (IntKind.i64.wrap (sR .u8 a7 (Int.tmod x4752 8))) 1) * 65536))), (69, .pointer (some ⟨g2702, 0, none⟩)), (70, .pointer (some ⟨g2702, 0, none⟩)), (71, .int .i64 x4748), (72, .int .i64 (IntKind.i64.wrap ((IntKind.i64.wrap ((bA .i64 (IntKind.i64.wrap (sR .u8 a7 (Int.tmod x4752 8))) 1) * 65536)) + x4748))), (73, .bool (!(decide ((IntKind.i64.wrap t5244) = (IntKind.i64.wrap ((IntKind.i64.wrap ((bA .i64 (IntKind.i64.wrap (sR .u8 a7 (Int.tmod x4752 8))) 1) * 65536)) + x4748)))))), (74, .bool (!(decide ((IntKind.i64.wrap t5244) = (IntKind.i64.wrap ((IntKind.i64.wrap ((bA .i64 (IntKind.i64.wrap (sR .u8 a7 (Int.tmod x4752 8))) 1) * 65536)) + x4748)))))), (75, .bool (!(decide ((IntKind.i64.wrap t5244) = (IntKind.i64.wrap ((IntKind.i64.wrap ((bA .i64 (IntKind.i64.wrap (sR .u8 a7 (Int.tmod x4752 8))) 1) * 65536)) + x4748))))))] (by kernel_rfl) ?_
                    obtain ⟨y5321, hy5321, H⟩ := lt_out H
                    obtain ⟨y5322, hy5322, H⟩ := lt_out H
                    refine EL.keep [0, 1, 2, 3, 9, 10, 11, 12, 15, 16, 63, 64, 65, 66, 67, 68, 69, 70, 71, 72, 73, 74, 75] [(0, .int .u8 a5), (1, .int .u8 a6), (2, .int .u8 a7), (3, .int .u8 a8), (9, .pointer (some ⟨g2694, 0, none⟩)), (10, .pointer (some ⟨g2702, 0, none⟩)), (11, .pointer (some ⟨g2703, 0, none⟩)), (12, .int .i64 x4752), (15, .bool (true)), (16, .pointer (some ⟨g2702, 0, none⟩)), (63, .bool (true)), (64, .bool (true)), (65, .int .i32 t5244), (66, .int .i64 (IntKind.i64.wrap t5244)), (67, .int .i64 (bA .i64 (IntKind.i64.wrap (sR .u8 a7 (Int.tmod x4752 8))) 1)), (68, .int .i64 (IntKind.i64.wrap ((bA .i64 (IntKind.i64.wrap (sR .u8 a7 (Int.tmod x4752 8))) 1) * 65536))), (69, .pointer (some ⟨g2702, 0, none⟩)), (70, .pointer (some ⟨g2702, 0, none⟩)), (71, .int .i64 x4748), (72, .int .i64 (IntKind.i64.wrap ((IntKind.i64.wrap ((bA .i64 (IntKind.i64.wrap (sR .u8 a7 (Int.tmod x4752 8))) 1) * 65536)) + x4748))), (73, .bool (!(decide ((IntKind.i64.wrap t5244) = (IntKind.i64.wrap ((IntKind.i64.wrap ((bA .i64 (IntKind.i64.wrap (sR .u8 a7 (Int.tmod x4752 8))) 1) * 65536)) + x4748)))))), (74, .bool (!(decide ((IntKind.i64.wrap t5244) = (IntKind.i64.wrap ((IntKind.i64.wrap ((bA .i64 (IntKind.i64.wrap (sR .u8 a7 (Int.tmod x4752 8))) 1) * 65536)) + x4748)))))), (75, .bool (!(decide ((IntKind.i64.wrap t5244) = (IntKind.i64.wrap ((IntKind.i64.wrap ((bA .i64 (IntKind.i64.wrap (sR .u8 a7 (Int.tmod x4752 8))) 1) * 65536)) + x4748))))))] (by kernel_rfl) ?_
                    refine EL.as' [(0, .int .u8 a5), (1, .int .u8 a6), (2, .int .u8 a7), (3, .int .u8 a8), (9, .pointer (some ⟨g2694, 0, none⟩)), (10, .pointer (some ⟨g2702, 0, none⟩)), (11, .pointer (some ⟨g2703, 0, none⟩)), (12, .int .i64 x4752), (15, .bool (true)), (16, .pointer (some ⟨g2702, 0, none⟩)), (63, .bool (true)), (64, .bool (true)), (65, .int .i32 t5244), (66, .int .i64 (IntKind.i64.wrap t5244)), (67, .int .i64 (bA .i64 (IntKind.i64.wrap (sR .u8 a7 (Int.tmod x4752 8))) 1)), (68, .int .i64 y5321), (69, .pointer (some ⟨g2702, 0, none⟩)), (70, .pointer (some ⟨g2702, 0, none⟩)), (71, .int .i64 x4748), (72, .int .i64 y5322), (73, .bool (!(decide ((IntKind.i64.wrap t5244) = (IntKind.i64.wrap ((IntKind.i64.wrap ((bA .i64 (IntKind.i64.wrap (sR .u8 a7 (Int.tmod x4752 8))) 1) * 65536)) + x4748)))))), (74, .bool (!(decide ((IntKind.i64.wrap t5244) = (IntKind.i64.wrap ((IntKind.i64.wrap ((bA .i64 (IntKind.i64.wrap (sR .u8 a7 (Int.tmod x4752 8))) 1) * 65536)) + x4748)))))), (75, .bool (!(decide ((IntKind.i64.wrap t5244) = (IntKind.i64.wrap ((IntKind.i64.wrap ((bA .i64 (IntKind.i64.wrap (sR .u8 a7 (Int.tmod x4752 8))) 1) * 65536)) + x4748))))))] (by subst hy5321; subst hy5322; rfl) ?_
                    refine EL.done (by kernel_rfl) ?_
                    refine EQ.to ?_
                    refine EQ.keep [0, 1, 2, 3, 9, 10, 11, 12, 15, 16, 75] [(0, .int .u8 a5), (1, .int .u8 a6), (2, .int .u8 a7), (3, .int .u8 a8), (9, .pointer (some ⟨g2694, 0, none⟩)), (10, .pointer (some ⟨g2702, 0, none⟩)), (11, .pointer (some ⟨g2703, 0, none⟩)), (12, .int .i64 x4752), (15, .bool (true)), (16, .pointer (some ⟨g2702, 0, none⟩)), (75, .bool (!(decide ((IntKind.i64.wrap t5244) = (IntKind.i64.wrap ((IntKind.i64.wrap ((bA .i64 (IntKind.i64.wrap (sR .u8 a7 (Int.tmod x4752 8))) 1) * 65536)) + x4748))))))] (by kernel_rfl) ?_
                    exact fun a ha => ⟨true, !(decide ((IntKind.i64.wrap t5244) = (IntKind.i64.wrap ((IntKind.i64.wrap ((bA .i64 (IntKind.i64.wrap (sR .u8 a7 (Int.tmod x4752 8))) 1) * 65536)) + x4748)))), ha, (hS.re [4, 4, 4, 4, 4] [] rfl (sub_cons 0 rfl (sub_cons 0 rfl (sub_tail (sub_tail (sub_self)))))), H⟩
                  · rw [if_neg h5320] at H
                    refine EL.keep [0, 1, 2, 3, 9, 10, 11, 12, 13, 14, 15, 16, 62, 63, 64] [(0, .int .u8 a5), (1, .int .u8 a6), (2, .int .u8 a7), (3, .int .u8 a8), (9, .pointer (some ⟨g2694, 0, none⟩)), (10, .pointer (some ⟨g2702, 0, none⟩)), (11, .pointer (some ⟨g2703, 0, none⟩)), (12, .int .i64 x4752), (13, .int .i64 (bA .i64 (IntKind.i64.wrap (sR .u8 a7 (Int.tmod x4752 8))) 1)), (14, .int .i32 t5244), (15, .bool (t5245)), (16, .pointer (some ⟨g2702, 0, none⟩)), (62, .bool (false)), (63, .bool (t5245)), (64, .bool (t5245))] (by kernel_rfl) ?_
                    refine EL.as' [(0, .int .u8 a5), (1, .int .u8 a6), (2, .int .u8 a7), (3, .int .u8 a8), (9, .pointer (some ⟨g2694, 0, none⟩)), (10, .pointer (some ⟨g2702, 0, none⟩)), (11, .pointer (some ⟨g2703, 0, none⟩)), (12, .int .i64 x4752), (13, .int .i64 (bA .i64 (IntKind.i64.wrap (sR .u8 a7 (Int.tmod x4752 8))) 1)), (14, .int .i32 t5244), (15, .bool (false)), (16, .pointer (some ⟨g2702, 0, none⟩)), (62, .bool (false)), (63, .bool (false)), (64, .bool (false))] (by simp only [(Bool.eq_false_iff.2 h5320), Bool.not_true, Bool.not_false]) ?_
                    refine EL.quick 11 [0, 1, 2, 3, 9, 10, 11, 12, 15, 16, 63, 64, 74, 75] [(0, .int .u8 a5), (1, .int .u8 a6), (2, .int .u8 a7), (3, .int .u8 a8), (9, .pointer (some ⟨g2694, 0, none⟩)), (10, .pointer (some ⟨g2702, 0, none⟩)), (11, .pointer (some ⟨g2703, 0, none⟩)), (12, .int .i64 x4752), (15, .bool (false)), (16, .pointer (some ⟨g2702, 0, none⟩)), (63, .bool (false)), (64, .bool (false)), (74, .bool (false)), (75, .bool (false))] (by kernel_rfl) ?_
                    refine EL.done (by kernel_rfl) ?_
                    refine EQ.to ?_
                    refine EQ.keep [0, 1, 2, 3, 9, 10, 11, 12, 15, 16, 75] [(0, .int .u8 a5), (1, .int .u8 a6), (2, .int .u8 a7), (3, .int .u8 a8), (9, .pointer (some ⟨g2694, 0, none⟩)), (10, .pointer (some ⟨g2702, 0, none⟩)), (11, .pointer (some ⟨g2703, 0, none⟩)), (12, .int .i64 x4752), (15, .bool (false)), (16, .pointer (some ⟨g2702, 0, none⟩)), (75, .bool (false))] (by kernel_rfl) ?_
                    exact fun a ha => ⟨false, false, ha, (hS.re [4, 4, 4, 4, 4] [] rfl (sub_cons 0 rfl (sub_cons 0 rfl (sub_tail (sub_tail (sub_self)))))), H⟩
                · rw [if_neg h5319] at H
                  refine EL.keep [0, 1, 2, 3, 9, 10, 11, 12, 13, 14, 15, 16, 62] [(0, .int .u8 a5), (1, .int .u8 a6), (2, .int .u8 a7), (3, .int .u8 a8), (9, .pointer (some ⟨g2694, 0, none⟩)), (10, .pointer (some ⟨g2702, 0, none⟩)), (11, .pointer (some ⟨g2703, 0, none⟩)), (12, .int .i64 x4752), (13, .int .i64 (bA .i64 (IntKind.i64.wrap (sR .u8 a7 (Int.tmod x4752 8))) 1)), (14, .int .i32 t5244), (15, .bool (t5245)), (16, .pointer (some ⟨g2702, 0, none⟩)), (62, .bool (!((t5245 == (decide (x4748 < (IntKind.i64.wrap (Int.tmod a5 9))))))))] (by kernel_rfl) ?_
                  refine EL.as' [(0, .int .u8 a5), (1, .int .u8 a6), (2, .int .u8 a7), (3, .int .u8 a8), (9, .pointer (some ⟨g2694, 0, none⟩)), (10, .pointer (some ⟨g2702, 0, none⟩)), (11, .pointer (some ⟨g2703, 0, none⟩)), (12, .int .i64 x4752), (13, .int .i64 (bA .i64 (IntKind.i64.wrap (sR .u8 a7 (Int.tmod x4752 8))) 1)), (14, .int .i32 t5244), (15, .bool (t5245)), (16, .pointer (some ⟨g2702, 0, none⟩)), (62, .bool (true))] (by simp only [(Bool.eq_false_iff.2 h5319), Bool.not_true, Bool.not_false]) ?_
                  refine EL.quick 13 [0, 1, 2, 3, 9, 10, 11, 12, 15, 16, 75] [(0, .int .u8 a5), (1, .int .u8 a6), (2, .int .u8 a7), (3, .int .u8 a8), (9, .pointer (some ⟨g2694, 0, none⟩)), (10, .pointer (some ⟨g2702, 0, none⟩)), (11, .pointer (some ⟨g2703, 0, none⟩)), (12, .int .i64 x4752), (15, .bool (t5245)), (16, .pointer (some ⟨g2702, 0, none⟩)), (75, .bool (true))] (by kernel_rfl) ?_
                  refine EL.done (by kernel_rfl) ?_
                  refine EQ.to ?_
                  refine EQ.keep [0, 1, 2, 3, 9, 10, 11, 12, 15, 16, 75] [(0, .int .u8 a5), (1, .int .u8 a6), (2, .int .u8 a7), (3, .int .u8 a8), (9, .pointer (some ⟨g2694, 0, none⟩)), (10, .pointer (some ⟨g2702, 0, none⟩)), (11, .pointer (some ⟨g2703, 0, none⟩)), (12, .int .i64 x4752), (15, .bool (t5245)), (16, .pointer (some ⟨g2702, 0, none⟩)), (75, .bool (true))] (by kernel_rfl) ?_
                  exact fun a ha => ⟨t5245, true, ha, (hS.re [4, 4, 4, 4, 4] [] rfl (sub_cons 0 rfl (sub_cons 0 rfl (sub_tail (sub_tail (sub_self)))))), H⟩
              · obtain ⟨x5316, x5317, ha, hS, H⟩ := hI
                rw [hj5318] at H
                (try dsimp only at H)
                refine EW.at ?_ a ha
                clear ha a
                refine EW.condP' (o := (.tmp 75)) (x := Cd10.r.r.r.r.l.r.l.l.r.l.l.r.r.r.r.l.r.l) (y := Cd10.r.r.r.r.l.r.l.l.r.l.l.r.r.r.r.l.r.r) (x5317) (by kernel_rfl) (by kernel_rfl) (fun h5323 => ?_) (fun h5323 => ?_)
                · rw [if_pos h5323] at H
                  refine EW.seq (x := Cd10.r.r.r.r.l.r.l.l.r.l.l.r.r.r.r.l.r.l.l) (y := Cd10.r.r.r.r.l.r.l.l.r.l.l.r.r.r.r.l.r.l.r) (by kernel_rfl) ?_
                  refine EW.region (id := 14) (ops := Cd10.r.r.r.r.l.r.l.l.r.l.l.r.r.r.r.l.r.l.l.ops) (by kernel_rfl) ?_
                  refine EL.quick 1 [8] [(8, .bool (false))] (by kernel_rfl) ?_
                  refine EL.done (by kernel_rfl) ?_
                  refine EQ.code ?_
                  refine EW.ret (by kernel_rfl) ?_
                  refine EQ.ret ?_
                  refine EQ.ret ?_
                  refine EQ.ret ?_
                  refine EQ.ret ?_
                  refine EQ.ret ?_
                  refine EQ.ret ?_
                  obtain rfl := Option.some.inj H
                  exact EQ.leave (.bool (false)) (by kernel_rfl) ⟨_, rfl, rfl, (hS.re [] [0, 0, 0, 0, 0] rfl (sub_tail (sub_tail (sub_self))))⟩
                · rw [if_neg h5323] at H
                  refine EW.skip (by kernel_rfl) ?_
                  refine EQ.code ?_
                  refine EW.seq (x := Cd10.r.r.r.r.l.r.l.l.r.l.l.r.r.r.r.r.l) (y := Cd10.r.r.r.r.l.r.l.l.r.l.l.r.r.r.r.r.r) (by kernel_rfl) ?_
                  refine EW.region (id := 15) (ops := Cd10.r.r.r.r.l.r.l.l.r.l.l.r.r.r.r.r.l.ops) (by kernel_rfl) ?_
                  refine EL.quick 1 [0, 1, 2, 3, 9, 10, 11, 12, 16, 76] [(0, .int .u8 a5), (1, .int .u8 a6), (2, .int .u8 a7), (3, .int .u8 a8), (9, .pointer (some ⟨g2694, 0, none⟩)), (10, .pointer (some ⟨g2702, 0, none⟩)), (11, .pointer (some ⟨g2703, 0, none⟩)), (12, .int .i64 x4752), (16, .pointer (some ⟨g2702, 0, none⟩)), (76, .bool (x5316))] (by kernel_rfl) ?_
                  refine EL.done (by kernel_rfl) ?_
                  refine EQ.code ?_
                  refine EW.condP' (o := (.tmp 76)) (x := Cd10.r.r.r.r.l.r.l.l.r.l.l.r.r.r.r.r.r.l) (y := Cd10.r.r.r.r.l.r.l.l.r.l.l.r.r.r.r.r.r.r) (x5316) (by kernel_rfl) (by kernel_rfl) (fun h5324 => ?_) (fun h5324 => ?_)
                  · rw [if_pos h5324] at H
                    refine EW.region (id := 16) (ops := Cd10.r.r.r.r.l.r.l.l.r.l.l.r.r.r.r.r.r.l.ops) (by kernel_rfl) ?_
                    refine EL.quick 2 [0, 1, 2, 3, 9, 10, 11, 12, 77, 78] [(0, .int .u8 a5), (1, .int .u8 a6), (2, .int .u8 a7), (3, .int .u8 a8), (9, .pointer (some ⟨g2694, 0, none⟩)), (10, .pointer (some ⟨g2702, 0, none⟩)), (11, .pointer (some ⟨g2703, 0, none⟩)), (12, .int .i64 x4752), (77, .pointer (some ⟨g2702, 0, none⟩)), (78, .pointer (some ⟨g2702, 0, none⟩))] (by kernel_rfl) ?_
                    refine EL.of (EO.Y (YO.loadBox hS 4 rfl 3 0 1 (.int .i64 x4748) 79 (by kernel_rfl) (by kernel_rfl) (by kernel_rfl) (by kernel_rfl)) ?_)
                    refine EL.quick 2 [0, 1, 2, 3, 9, 10, 11, 12, 80, 81] [(0, .int .u8 a5), (1, .int .u8 a6), (2, .int .u8 a7), (3, .int .u8 a8), (9, .pointer (some ⟨g2694, 0, none⟩)), (10, .pointer (some ⟨g2702, 0, none⟩)), (11, .pointer (some ⟨g2703, 0, none⟩)), (12, .int .i64 x4752), (80, .int .i64 (IntKind.i64.wrap (x4748 + 1))), (81, .pointer (some ⟨g2702, 0, none⟩))] (by kernel_rfl) ?_
                    refine EL.of (EO.storeBox (os' := Ass.box 95 g2694 [.slice A5246 t5243.length C5247, .slice A2697 t2693.length C2698] :: Ass.deep 76 69 kS69 A5246 C5247 t5243 :: Ass.own 3 (Kd.int .i64) A2697 C2698 t2693 :: Ass.box 3 g2703 [.int .i64 x4747] :: Ass.box 3 g2702 [.int .i64 (IntKind.i64.wrap (x4748 + 1))] :: os) hS 4 rfl 3 0 (.int .i64 (IntKind.i64.wrap (x4748 + 1))) [.int .i64 (IntKind.i64.wrap (x4748 + 1))] (by kernel_rfl) (by kernel_rfl) (by kernel_rfl) (by kernel_rfl) (by kernel_rfl) (by kernel_rfl) rfl rfl ?_)
                    intro w hS
                    refine EL.done (by kernel_rfl) ?_
                    refine EQ.pop ?_
                    refine EQ.to ?_
                    refine EQ.keep [0, 1, 2, 3, 9, 10, 11, 12] [(0, .int .u8 a5), (1, .int .u8 a6), (2, .int .u8 a7), (3, .int .u8 a8), (9, .pointer (some ⟨g2694, 0, none⟩)), (10, .pointer (some ⟨g2702, 0, none⟩)), (11, .pointer (some ⟨g2703, 0, none⟩)), (12, .int .i64 x4752)] (by kernel_rfl) ?_
                    exact fun a ha => ⟨t5243, x4747, IntKind.i64.wrap (x4748 + 1), A5246, C5247, ha, (hS.re [4, 4, 4, 4, 4] [] rfl (sub_cons 0 rfl (sub_cons 0 rfl (sub_tail (sub_tail (sub_self)))))), H⟩
                  · rw [if_neg h5324] at H
                    refine EW.skip (by kernel_rfl) ?_
                    refine EQ.pop ?_
                    refine EQ.to ?_
                    refine EQ.keep [0, 1, 2, 3, 9, 10, 11, 12] [(0, .int .u8 a5), (1, .int .u8 a6), (2, .int .u8 a7), (3, .int .u8 a8), (9, .pointer (some ⟨g2694, 0, none⟩)), (10, .pointer (some ⟨g2702, 0, none⟩)), (11, .pointer (some ⟨g2703, 0, none⟩)), (12, .int .i64 x4752)] (by kernel_rfl) ?_
                    exact fun a ha => ⟨t5243, x4747, x4748, A5246, C5247, ha, (hS.re [4, 4, 4, 4, 4] [] rfl (sub_cons 0 rfl (sub_cons 0 rfl (sub_tail (sub_tail (sub_self)))))), H⟩
          · obtain ⟨x5229, x5232, x5233, A5230, C5231, ha, hS, H⟩ := hI
            rw [hj5234] at H
            (try dsimp only at H)
            refine EW.at ?_ a ha
            clear ha a
            refine EW.region (id := 7) (ops := Cd10.r.r.r.r.l.r.l.l.r.r.ops) (by kernel_rfl) ?_
            refine EL.quick 3 [0, 1, 2, 3, 9, 10, 11, 12] [(0, .int .u8 a5), (1, .int .u8 a6), (2, .int .u8 a7), (3, .int .u8 a8), (9, .pointer (some ⟨g2694, 0, none⟩)), (10, .pointer (some ⟨g2702, 0, none⟩)), (11, .pointer (some ⟨g2703, 0, none⟩)), (12, .int .i64 (IntKind.i64.wrap (x4752 + 1)))] (by kernel_rfl) ?_
            refine EL.done (by kernel_rfl) ?_
            refine EQ.to ?_
            refine EQ.keep [0, 1, 2, 3, 9, 10, 11, 12] [(0, .int .u8 a5), (1, .int .u8 a6), (2, .int .u8 a7), (3, .int .u8 a8), (9, .pointer (some ⟨g2694, 0, none⟩)), (10, .pointer (some ⟨g2702, 0, none⟩)), (11, .pointer (some ⟨g2703, 0, none⟩)), (12, .int .i64 (IntKind.i64.wrap (x4752 + 1)))] (by kernel_rfl) ?_
            exact fun a ha => ⟨n, Nat.lt_succ_self n, x5232, x5233, x5229, IntKind.i64.wrap (x4752 + 1), A5230, C5231, ha, (hS.re [2, 2, 2, 4, 4] [] rfl (sub_cons 0 rfl (sub_cons 0 rfl (sub_tail (sub_tail (sub_self)))))), H⟩
        · rw [if_neg h5046] at H
          refine EW.exit (id := 0) (by kernel_rfl) ?_
          refine EQ.exitCode ?_
          refine EQ.exitTo ?_
          refine EQ.exitHere ?_
          refine EQ.to ?_
          refine EQ.keep [9, 10, 11] [(9, .pointer (some ⟨g2694, 0, none⟩)), (10, .pointer (some ⟨g2702, 0, none⟩)), (11, .pointer (some ⟨g2703, 0, none⟩))] (by kernel_rfl) ?_
          exact fun a ha => ⟨x4747, x4748, x4749, A4750, C4751, ha, (hS.re [4, 4, 4, 4, 4] [] rfl (sub_cons 0 rfl (sub_cons 0 rfl (sub_tail (sub_tail (sub_self)))))), H⟩
    · obtain ⟨x4449, x4450, x4451, A4452, C4453, ha, hS, H⟩ := hI
      rw [hj4454] at H
      (try dsimp only at H)
      refine EW.at ?_ a ha
      clear ha a
      refine EW.seq (x := Cd10.r.r.r.r.r.l) (y := Cd10.r.r.r.r.r.r) (by kernel_rfl) ?_
      obtain ⟨t5325, hc5326, H⟩ := b1_out H
      by_cases h5327 : t5325 = x4450
      · rw [if_pos h5327] at H
        obtain ⟨t5328, hc5329, H⟩ := b1_out H
        have hS := hS.drew
        refine EW.draw (B := B) (id := 17) (ops := Cd10.r.r.r.r.r.l.ops) [Ass.box 3 g2703 [.int .i64 x4449], Ass.box 3 g2702 [.int .i64 x4450], Ass.box 95 g2694 [.slice A4452 x4451.length C4453, .slice A2697 t2693.length C2698], Ass.deep 76 69 kS69 A4452 C4453 x4451, Ass.own 3 (Kd.int .i64) A2697 C2698 t2693] [Ro.sl (Kd.int .i64) (some ⟨g2690, 0, none⟩) 2 l2691, Ro.sl (Kd.int .i64) (some ⟨g2690, 0, none⟩) 2 l2691] (by kernel_rfl) (by kernel_rfl) ?_
        have hN : Region.noSelect Cd10.r.r.r.r.r.l.ops = true := (by kernel_rfl)
        have hF : freeAll Cd10.r.r.r.r.r.l.ops = true := (by kernel_rfl)
        have hC : Core B [Ass.box 3 g2703 [.int .i64 x4449], Ass.box 3 g2702 [.int .i64 x4450], Ass.box 95 g2694 [.slice A4452 x4451.length C4453, .slice A2697 t2693.length C2698], Ass.deep 76 69 kS69 A4452 C4453 x4451, Ass.own 3 (Kd.int .i64) A2697 C2698 t2693] [Ro.sl (Kd.int .i64) (some ⟨g2690, 0, none⟩) 2 l2691, Ro.sl (Kd.int .i64) (some ⟨g2690, 0, none⟩) 2 l2691] _ := ⟨_, _, hS⟩
        refine ED.quick hN hF hC [0] [9, 10, 11, 82] 10 [(9, .pointer (some ⟨g2694, 0, none⟩)), (10, .pointer (some ⟨g2702, 0, none⟩)), (11, .pointer (some ⟨g2703, 0, none⟩)), (82, .pointer (some ⟨g2694, 0, none⟩))] #[true, false, false, false, false, false, false, false, false, false, false] (by kernel_rfl) (by kernel_rfl) ?_
        refine ED.Y hN hF hC 2 9 #[true, false, true, false, false, false, false, false, false, false, false] (by kernel_rfl) (by kernel_rfl) rfl (fun _ _ _ hS => YO.loadBox hS 1 rfl 3 0 1 (.int .i64 x4450) 84 (by kernel_rfl) (by kernel_rfl) (by kernel_rfl) (by kernel_rfl)) ?_
        have hS : St B _ (Ass.box 95 g2694 [.slice A4452 x4451.length C4453, .slice A2697 t2693.length C2698] :: Ass.deep 76 69 kS69 A4452 C4453 x4451 :: Ass.own 3 (Kd.int .i64) A2697 C2698 t2693 :: Ass.box 3 g2703 [.int .i64 x4449] :: Ass.box 3 g2702 [.int .i64 x4450] :: os) (Ro.sl (Kd.int .i64) (some ⟨g2690, 0, none⟩) 2 l2691 :: Ro.sl (Kd.int .i64) (some ⟨g2690, 0, none⟩) 2 l2691 :: rs) := hS.re [4, 4, 4] [] rfl sub_self
        refine ED.one 1 8 #[true, true, true, false, false, false, false, false, false, false, false] (by kernel_rfl) (by kernel_rfl) (by kernel_rfl) (EO.callD 42 [.pointer (some ⟨g2694, 0, none⟩), .int .i64 0] _ 83 (by kernel_rfl) (by kernel_rfl) (by kernel_rfl) (arena_Arena_Count.calls hc5326 hS) ?_)
        rintro v w ⟨rfl, hS⟩
        have hC : Core B [Ass.box 3 g2703 [.int .i64 x4449], Ass.box 3 g2702 [.int .i64 x4450], Ass.box 95 g2694 [.slice A4452 x4451.length C4453, .slice A2697 t2693.length C2698], Ass.deep 76 69 kS69 A4452 C4453 x4451, Ass.own 3 (Kd.int .i64) A2697 C2698 t2693] [Ro.sl (Kd.int .i64) (some ⟨g2690, 0, none⟩) 2 l2691, Ro.sl (Kd.int .i64) (some ⟨g2690, 0, none⟩) 2 l2691] _ := ⟨_, _, hS.re [2, 2, 2, 4, 4] [] rfl sub_self⟩
        refine ⟨hC, ?_⟩
        refine ED.quick hN hF hC [3, 4] [9, 11, 86] 6 [(9, .pointer (some ⟨g2694, 0, none⟩)), (11, .pointer (some ⟨g2703, 0, none⟩)), (86, .bool (decide (t5325 = x4450)))] #[true, true, true, true, true, false, false, false, false, false, false] (by kernel_rfl) (by kernel_rfl) ?_
        refine ED.keep [9, 11, 86] [(9, .pointer (some ⟨g2694, 0, none⟩)), (11, .pointer (some ⟨g2703, 0, none⟩)), (86, .bool (decide (t5325 = x4450)))] (by kernel_rfl) ?_
        refine ED.as' [(9, .pointer (some ⟨g2694, 0, none⟩)), (11, .pointer (some ⟨g2703, 0, none⟩)), (86, .bool (true))] (by simp only [dec_t h5327, Bool.not_true, Bool.not_false]) ?_
        refine ED.quick hN hF hC [5] [11, 86, 87] 5 [(11, .pointer (some ⟨g2703, 0, none⟩)), (86, .bool (true)), (87, .pointer (some ⟨g2694, 0, none⟩))] #[true, true, true, true, true, true, false, false, false, false, false] (by kernel_rfl) (by kernel_rfl) ?_
        refine ED.Y hN hF hC 7 4 #[true, true, true, true, true, true, false, true, false, false, false] (by kernel_rfl) (by kernel_rfl) rfl (fun _ _ _ hS => YO.loadBox hS 0 rfl 3 0 1 (.int .i64 x4449) 89 (by kernel_rfl) (by kernel_rfl) (by kernel_rfl) (by kernel_rfl)) ?_
        refine ED.one 6 3 #[true, true, true, true, true, true, true, true, false, false, false] (by kernel_rfl) (by kernel_rfl) (by kernel_rfl) (EO.callD 42 [.pointer (some ⟨g2694, 0, none⟩), .int .i64 1] _ 88 (by kernel_rfl) (by kernel_rfl) (by kernel_rfl) (arena_Arena_Count.calls hc5329 hS) ?_)
        rintro v w ⟨rfl, hS⟩
        have hC : Core B [Ass.box 3 g2703 [.int .i64 x4449], Ass.box 3 g2702 [.int .i64 x4450], Ass.box 95 g2694 [.slice A4452 x4451.length C4453, .slice A2697 t2693.length C2698], Ass.deep 76 69 kS69 A4452 C4453 x4451, Ass.own 3 (Kd.int .i64) A2697 C2698 t2693] [Ro.sl (Kd.int .i64) (some ⟨g2690, 0, none⟩) 2 l2691, Ro.sl (Kd.int .i64) (some ⟨g2690, 0, none⟩) 2 l2691] _ := ⟨_, _, hS.re [2, 2, 2, 4, 4] [] rfl sub_self⟩
        refine ⟨hC, ?_⟩
        refine ED.quick hN hF hC [8, 9, 10] [8] 0 [(8, .bool (decide (t5328 = x4449)))] #[true, true, true, true, true, true, true, true, true, true, true] (by kernel_rfl) (by kernel_rfl) ?_
        refine ED.done (by kernel_rfl) ?_
        refine EQ.code ?_
        refine EW.ret (by kernel_rfl) ?_
        obtain rfl := Option.some.inj H
        exact EQ.leave (.bool (decide (t5328 = x4449))) (by kernel_rfl) ⟨_, rfl, rfl, (hS.re [] [0, 0, 0, 0, 0] rfl (sub_tail (sub_tail (sub_self))))⟩
      · rw [if_neg h5327] at H
        have hS := hS.drew
        refine EW.draw (B := B) (id := 17) (ops := Cd10.r.r.r.r.r.l.ops) [Ass.box 3 g2703 [.int .i64 x4449], Ass.box 3 g2702 [.int .i64 x4450], Ass.box 95 g2694 [.slice A4452 x4451.length C4453, .slice A2697 t2693.length C2698], Ass.deep 76 69 kS69 A4452 C4453 x4451, Ass.own 3 (Kd.int .i64) A2697 C2698 t2693] [Ro.sl (Kd.int .i64) (some ⟨g2690, 0, none⟩) 2 l2691, Ro.sl (Kd.int .i64) (some ⟨g2690, 0, none⟩) 2 l2691] (by kernel_rfl) (by kernel_rfl) ?_
        have hN : Region.noSelect Cd10.r.r.r.r.r.l.ops = true := (by kernel_rfl)
        have hF : freeAll Cd10.r.r.r.r.r.l.ops = true := (by kernel_rfl)
        have hC : Core B [Ass.box 3 g2703 [.int .i64 x4449], Ass.box 3 g2702 [.int .i64 x4450], Ass.box 95 g2694 [.slice A4452 x4451.length C4453, .slice A2697 t2693.length C2698], Ass.deep 76 69 kS69 A4452 C4453 x4451, Ass.own 3 (Kd.int .i64) A2697 C2698 t2693] [Ro.sl (Kd.int .i64) (some ⟨g2690, 0, none⟩) 2 l2691, Ro.sl (Kd.int .i64) (some ⟨g2690, 0, none⟩) 2 l2691] _ := ⟨_, _, hS⟩
        refine ED.quick hN hF hC [0] [9, 10, 11, 82] 10 [(9, .pointer (some ⟨g2694, 0, none⟩)), (10, .pointer (some ⟨g2702, 0, none⟩)), (11, .pointer (some ⟨g2703, 0, none⟩)), (82, .pointer (some ⟨g2694, 0, none⟩))] #[true, false, false, false, false, false, false, false, false, false, false] (by kernel_rfl) (by kernel_rfl) ?_
        refine ED.Y hN hF hC 2 9 #[true, false, true, false, false, false, false, false, false, false, false] (by kernel_rfl) (by kernel_rfl) rfl (fun _ _ _ hS => YO.loadBox hS 1 rfl 3 0 1 (.int .i64 x4450) 84 (by kernel_rfl) (by kernel_rfl) (by kernel_rfl) (by kernel_rfl)) ?_
        have hS : St B _ (Ass.box 95 g2694 [.slice A4452 x4451.length C4453, .slice A2697 t2693.length C2698] :: Ass.deep 76 69 kS69 A4452 C4453 x4451 :: Ass.own 3 (Kd.int .i64) A2697 C2698 t2693 :: Ass.box 3 g2703 [.int .i64 x4449] :: Ass.box 3 g2702 [.int .i64 x4450] :: os) (Ro.sl (Kd.int .i64) (some ⟨g2690, 0, none⟩) 2 l2691 :: Ro.sl (Kd.int .i64) (some ⟨g2690, 0, none⟩) 2 l2691 :: rs) := hS.re [4, 4, 4] [] rfl sub_self
        refine ED.one 1 8 #[true, true, true, false, false, false, false, false, false, false, false] (by kernel_rfl) (by kernel_rfl) (by kernel_rfl) (EO.callD 42 [.pointer (some ⟨g2694, 0, none⟩), .int .i64 0] _ 83 (by kernel_rfl) (by kernel_rfl) (by kernel_rfl) (arena_Arena_Count.calls hc5326 hS) ?_)
        rintro v w ⟨rfl, hS⟩
        have hC : Core B [Ass.box 3 g2703 [.int .i64 x4449], Ass.box 3 g2702 [.int .i64 x4450], Ass.box 95 g2694 [.slice A4452 x4451.length C4453, .slice A2697 t2693.length C2698], Ass.deep 76 69 kS69 A4452 C4453 x4451, Ass.own 3 (Kd.int .i64) A2697 C2698 t2693] [Ro.sl (Kd.int .i64) (some ⟨g2690, 0, none⟩) 2 l2691, Ro.sl (Kd.int .i64) (some ⟨g2690, 0, none⟩) 2 l2691] _ := ⟨_, _, hS.re [2, 2, 2, 4, 4] [] rfl sub_self⟩
        refine ⟨hC, ?_⟩
        refine ED.quick hN hF hC [3, 4] [9, 11, 86] 6 [(9, .pointer (some ⟨g2694, 0, none⟩)), (11, .pointer (some ⟨g2703, 0, none⟩)), (86, .bool (decide (t5325 = x4450)))] #[true, true, true, true, true, false, false, false, false, false, false] (by kernel_rfl) (by kernel_rfl) ?_
        refine ED.keep [9, 11, 86] [(9, .pointer (some ⟨g2694, 0, none⟩)), (11, .pointer (some ⟨g2703, 0, none⟩)), (86, .bool (decide (t5325 = x4450)))] (by kernel_rfl) ?_
        refine ED.as' [(9, .pointer (some ⟨g2694, 0, none⟩)), (11, .pointer (some ⟨g2703, 0, none⟩)), (86, .bool (false))] (by simp only [dec_f h5327, Bool.not_true, Bool.not_false]) ?_
        refine ED.quick hN hF hC [5, 6, 7, 8, 9, 10] [8] 0 [(8, .bool (false))] #[true, true, true, true, true, true, true, true, true, true, true] (by kernel_rfl) (by kernel_rfl) ?_
        refine ED.done (by kernel_rfl) ?_
        refine EQ.code ?_
        refine EW.ret (by kernel_rfl) ?_
        obtain rfl := Option.some.inj H
        exact EQ.leave (.bool (false)) (by kernel_rfl) ⟨_, rfl, rfl, (hS.re [] [0, 0, 0, 0, 0] rfl (sub_tail (sub_tail (sub_self))))⟩
  · rw [if_neg h2679] at H
    refine EW.seq (x := Cd10.r.l.r.l.l) (y := Cd10.r.l.r.l.r) (by kernel_rfl) ?_
    refine EW.region (id := 2) (ops := Cd10.r.l.r.l.l.ops) (by kernel_rfl) ?_
    refine EL.quick 1 [8] [(8, .bool (false))] (by kernel_rfl) ?_
    refine EL.done (by kernel_rfl) ?_
    refine EQ.code ?_
    refine EW.ret (by kernel_rfl) ?_
    refine EQ.ret ?_
    obtain rfl := Option.some.inj H
    exact EQ.leave (.bool (false)) (by kernel_rfl) ⟨_, rfl, rfl, (hS.re [] [] rfl (sub_self))⟩

def confidantlaw12_ArenaApart.Pure : Prop := ∀ (a5 : Int) (a6 : Int) (a7 : Int) (a8 : Int), (Lit.int .u8 a5).wf = true → (Lit.int .u8 a6).wf = true → (Lit.int .u8 a7).wf = true → (Lit.int .u8 a8).wf = true → ∃ K, confidantlaw12_ArenaApart.f K a5 a6 a7 a8 = some true

end Go.Proofs.Ytifnjijlbcacoaa.G
