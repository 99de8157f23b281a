import Derived.Test.YtipaaapbapijhaaProg
import Derived.Test.YtipaaapbapijhaaFwEq
import Derived.Test.YtipaaapbapijhaaFwOpen
import Derived.Test.YtipaaapbapijhaaG0
import Derived.Test.YtipaaapbapijhaaG1
import Derived.Test.YtipaaapbapijhaaG2
import Derived.Test.YtipaaapbapijhaaG3
import Derived.Test.YtipaaapbapijhaaG5
namespace Go.Proofs.Ytipaaapbapijhaa.G
open Go Go.Fw Go.RowKit Go.Proofs
set_option linter.unusedVariables false
set_option linter.unusedSimpArgs false

/-! ### confidant/confidantlaw20.ParkFuel: function 4 -/
def confidantlaw20_ParkFuel.l1 (K : Nat) (a8 : Int) (x2232 : List (List S96)) (t1572 : List Int) : Nat → (List S60) → Int → Int → Option Bool
  | 0, _, _, _ => none
  | n + 1, x2717, x2720, x2721 => if x2721 < (IntKind.i64.wrap (Int.tmod a8 6)) then (b1 (park_Park_Len.f K x2717) fun (t3002 : Int) => (b4 (park_Park_Look.f K x2717 x2232 t1572 x2720) fun (t3015 : List S60) (t3016 : List S36) (t3017 : List S36) (t3018 : Int) => (lt (fun (x3076 : Bool) => (if x3076 = true then (some false) else (confidantlaw20_ParkFuel.l1 K a8 x2232 t1572 n t3015 t3018 (IntKind.i64.wrap (x2721 + 1))))) fun j3077 => (if t3018 = (IntKind.i64.wrap (x2720 - (mn t3002 x2720))) then (if (t3017.length : Int) = (mx (IntKind.i64.wrap (t3002 - x2720)) 0) then (b1 (park_Park_Len.f K t3015) fun (t3080 : Int) => (if t3002 = (IntKind.i64.wrap ((IntKind.i64.wrap ((t3016.length : Int) + (t3017.length : Int))) + t3080)) then (if x2721 > 0 then (lt (IntKind.i64.wrap ((IntKind.i64.wrap ((t3016.length : Int) + (t3017.length : Int))) + t3080)) fun y3084 => (j3077 (decide ((t3016.length : Int) > 0)))) else (lt (IntKind.i64.wrap ((IntKind.i64.wrap ((t3016.length : Int) + (t3017.length : Int))) + t3080)) fun y3085 => (j3077 false))) else (lt (IntKind.i64.wrap ((IntKind.i64.wrap ((t3016.length : Int) + (t3017.length : Int))) + t3080)) fun y3086 => (j3077 true)))) else (j3077 true)) else (j3077 true))))) else (some true)
def confidantlaw20_ParkFuel.l0 (K : Nat) (a5 : Int) (t1572 : List Int) (a6 : Int) (j2235 : (List S60) → (List (List S96)) → Option Bool) : Nat → (List S60) → (List (List S96)) → Int → Option Bool
  | 0, _, _, _ => none
  | n + 1, x2340, x2343, x2346 => if x2346 < (IntKind.i64.wrap (Int.tmod a5 12)) then (lt (fun (x2518 : List (List S96)) (x2521 : List S60) => (confidantlaw20_ParkFuel.l0 K a5 t1572 a6 j2235 n x2521 x2518 (IntKind.i64.wrap (x2346 + 1)))) fun j2524 => (b3 (future_Futures_Make.f K x2343 t1572 0 0) fun (t2531 : List (List S96)) (t2532 : Int) (t2533 : Bool) => (b1 (park_Park_Add.f K x2340 (IntKind.i32.wrap x2346) 0 0 ([] : List Int) 0 0 0 0 0 0 0 0 t2532) fun (t2541 : List S60) => (if x2346 < 0 then none else (if (bA .u16 (sR .u16 a6 x2346) 1) = 1 then (b2 (future_Futures_Keep.f K t2531 t1572 t2532 1) fun (t2548 : List (List S96)) (t2549 : Bool) => (j2524 t2548 t2541)) else (j2524 t2531 t2541)))))) else (j2235 x2340 x2343)
def confidantlaw20_ParkFuel.f (K : Nat) (a5 : Int) (a6 : Int) (a7 : Int) (a8 : Int) : Option Bool := b1 (confidantlaw20_known.f K) fun (t1556 : Bool) => (if t1556 = true then (lt ([16] : List Int) fun l1570 => (b2 (future_New.f K l1570) fun (t1571 : List (List S96)) (t1572 : List Int) => (b1 (park_New.f K) fun (t1584 : List S60) => (lt (fun (x2229 : List S60) (x2232 : List (List S96)) => (confidantlaw20_ParkFuel.l1 K a8 x2232 t1572 K x2229 (IntKind.i64.wrap (Int.tmod a7 60)) 0)) fun j2235 => (confidantlaw20_ParkFuel.l0 K a5 t1572 a6 j2235 K t1584 t1571 0))))) else (some false))
set_option maxRecDepth 100000 in
theorem confidantlaw20_ParkFuel.calls {K : Nat} {a5 : Int} {a6 : Int} {a7 : Int} {a8 : Int} {x1548 : Bool} {B w : World} {os : List Ass} {rs : List Ro} (H : confidantlaw20_ParkFuel.f K a5 a6 a7 a8 = some x1548) (hS : St B w (os) (rs)) :
    Calls Try.prog 4 [.int .u8 a5, .int .u16 a6, .int .u8 a7, .int .u8 a8].toArray w (fun en w' => ∃ v, en = .returned v ∧ v = .bool (x1548) ∧ St B w' (os) (rs)) := by
  unfold confidantlaw20_ParkFuel.f at H
  refine calls_of_EW (args := [.int .u8 a5, .int .u16 a6, .int .u8 a7, .int .u8 a8]) (c := Cd4) 111 Try.func4 (by kernel_rfl) (by kernel_rfl) (by kernel_rfl) ?_
  refine EW.seq (x := Cd4.l) (y := Cd4.r) (by kernel_rfl) ?_
  refine EW.region (id := 0) (ops := Cd4.l.ops) (by kernel_rfl) ?_
  refine EL.quick 1 [0, 1, 2, 3] [(0, .int .u8 a5), (1, .int .u16 a6), (2, .int .u8 a7), (3, .int .u8 a8)] (by kernel_rfl) ?_
  refine EL.done (by kernel_rfl) ?_
  refine EQ.code ?_
  refine EW.seq (x := Cd4.r.l) (y := Cd4.r.r) (by kernel_rfl) ?_
  refine EW.seq (x := Cd4.r.l.l) (y := Cd4.r.l.r) (by kernel_rfl) ?_
  refine EW.region (id := 1) (ops := Cd4.r.l.l.ops) (by kernel_rfl) ?_
  obtain ⟨t1556, hc1557, H⟩ := b1_out H
  refine EL.of (EO.callD 10 [] _ 21 (by kernel_rfl) (by kernel_rfl) (by kernel_rfl) (confidantlaw20_known.calls hc1557 hS) ?_)
  rintro v w ⟨rfl, hS⟩
  refine EL.quick 1 [0, 1, 2, 3, 22] [(0, .int .u8 a5), (1, .int .u16 a6), (2, .int .u8 a7), (3, .int .u8 a8), (22, .bool (!(t1556)))] (by kernel_rfl) ?_
  refine EL.done (by kernel_rfl) ?_
  refine EQ.code ?_
  refine EW.condQ (b := !(t1556)) (o := (.tmp 22)) (x := Cd4.r.l.r.l) (y := Cd4.r.l.r.r) (t1556 = true) (false) (by kernel_rfl) (by kernel_rfl) ⟨fun h => (by rw [h] <;> rfl), fun h => (by rw [Bool.eq_false_iff.2 h] <;> rfl)⟩ (fun h1558 => ?_) (fun h1558 => ?_)
  · rw [if_pos h1558] at H
    refine EW.skip (by kernel_rfl) ?_
    refine EQ.code ?_
    refine EW.seq (x := Cd4.r.r.l) (y := Cd4.r.r.r) (by kernel_rfl) ?_
    refine EW.region (id := 3) (ops := Cd4.r.r.l.ops) (by kernel_rfl) ?_
    obtain ⟨l1570, hl1570, H⟩ := lt_out H
    refine EL.of (EO.lit hS (Kd.int .i64) 3 66 1 #[(0, .int .i64 16)] [.int .i64 16] l1570 23 (by kernel_rfl) (by kernel_rfl) (by kernel_rfl) (fun _ => (by kernel_rfl)) (by rw [hl1570]; rfl) (by kernel_rfl) (fun w G hr => (by rw [hl1570]; exact ⟨[.int .i64 16], [], rfl, rfl, rfl⟩)) ?_)
    intro g1569 w hS
    have hS := St.fr hS 0 rfl
    have hS : St B _ (os) (Ro.sl (Kd.int .i64) (some ⟨g1569, 0, none⟩) 1 l1570 :: Ro.sl (Kd.int .i64) (some ⟨g1569, 0, none⟩) 1 l1570 :: rs) := hS.re [] [] rfl (sub_cons 0 rfl sub_self)
    obtain ⟨t1571, t1572, hc1578, H⟩ := b2_out H
    refine EL.of (EO.callD 11 [.slice (some ⟨g1569, 0, none⟩) l1570.length 1] _ 24 (by kernel_rfl) (by kernel_rfl) (by kernel_rfl) (future_New.calls hc1578 hS) ?_)
    rintro v w ⟨g1573, A1574, C1575, A1576, C1577, rfl, hS⟩
    refine EL.quick 1 [0, 1, 2, 3, 9] [(0, .int .u8 a5), (1, .int .u16 a6), (2, .int .u8 a7), (3, .int .u8 a8), (9, .pointer (some ⟨g1573, 0, none⟩))] (by kernel_rfl) ?_
    refine EL.done (by kernel_rfl) ?_
    refine EQ.code ?_
    refine EW.seq (x := Cd4.r.r.r.l) (y := Cd4.r.r.r.r) (by kernel_rfl) ?_
    refine EW.region (id := 4) (ops := Cd4.r.r.r.l.ops) (by kernel_rfl) ?_
    obtain ⟨t1584, hc1588, H⟩ := b1_out H
    refine EL.of (EO.callD 12 [] _ 25 (by kernel_rfl) (by kernel_rfl) (by kernel_rfl) (park_New.calls hc1588 hS) ?_)
    rintro v w ⟨g1585, A1586, C1587, rfl, hS⟩
    refine EL.quick 1 [0, 1, 2, 3, 9, 10] [(0, .int .u8 a5), (1, .int .u16 a6), (2, .int .u8 a7), (3, .int .u8 a8), (9, .pointer (some ⟨g1573, 0, none⟩)), (10, .pointer (some ⟨g1585, 0, none⟩))] (by kernel_rfl) ?_
    refine EL.done (by kernel_rfl) ?_
    refine EQ.code ?_
    refine EW.seq (x := Cd4.r.r.r.r.l) (y := Cd4.r.r.r.r.r) (by kernel_rfl) ?_
    refine EW.region (id := 5) (ops := Cd4.r.r.r.r.l.ops) (by kernel_rfl) ?_
    refine EL.quick 4 [1, 2, 3, 9, 10, 11] [(1, .int .u16 a6), (2, .int .u8 a7), (3, .int .u8 a8), (9, .pointer (some ⟨g1573, 0, none⟩)), (10, .pointer (some ⟨g1585, 0, none⟩)), (11, .int .i64 (IntKind.i64.wrap (Int.tmod a5 12)))] (by kernel_rfl) ?_
    refine EL.done (by kernel_rfl) ?_
    refine EQ.code ?_
    obtain ⟨j2235, hj2235, H⟩ := lt_out H
    refine EW.cut (x := Cd4.r.r.r.r.r.l) (y := Cd4.r.r.r.r.r.r) (fun a w => ∃ x2229 : List S60, ∃ x2232 : List (List S96), ∃ A2230 : Option Addr, ∃ C2231 : Nat, ∃ A2233 : Option Addr, ∃ C2234 : Nat, Sat 111 [(2, .int .u8 a7), (3, .int .u8 a8), (9, .pointer (some ⟨g1573, 0, none⟩)), (10, .pointer (some ⟨g1585, 0, none⟩))] a ∧ St B w (Ass.box 93 g1585 [.slice A2230 x2229.length C2231] :: Ass.own 60 kS60 A2230 C2231 x2229 :: Ass.box 91 g1573 [.slice A2233 x2232.length C2234, .slice A1576 t1572.length C1577] :: Ass.deep 94 96 kS96 A2233 C2234 x2232 :: Ass.own 3 (Kd.int .i64) A1576 C1577 t1572 :: os) (Ro.sl (Kd.int .i64) (some ⟨g1569, 0, none⟩) 1 l1570 :: Ro.sl (Kd.int .i64) (some ⟨g1569, 0, none⟩) 1 l1570 :: rs) ∧ j2235 x2229 x2232 = some x1548) (by kernel_rfl) ?_ (fun a w hI => ?_)
    · refine EW.seq (x := Cd4.r.r.r.r.r.l.l) (y := Cd4.r.r.r.r.r.l.r) (by kernel_rfl) ?_
      refine EW.region (id := 6) (ops := Cd4.r.r.r.r.r.l.l.ops) (by kernel_rfl) ?_
      refine EL.quick 1 [1, 2, 3, 9, 10, 11, 12] [(1, .int .u16 a6), (2, .int .u8 a7), (3, .int .u8 a8), (9, .pointer (some ⟨g1573, 0, none⟩)), (10, .pointer (some ⟨g1585, 0, none⟩)), (11, .int .i64 (IntKind.i64.wrap (Int.tmod a5 12))), (12, .int .i64 0)] (by kernel_rfl) ?_
      refine EL.done (by kernel_rfl) ?_
      refine EQ.code ?_
      refine EW.block (x := Cd4.r.r.r.r.r.l.r.l) (id := 0) (by kernel_rfl) ?_
      refine EW.loop (x := Cd4.r.r.r.r.r.l.r.l.l) (fun n a w => ∃ x2340 : List S60, ∃ x2343 : List (List S96), ∃ x2346 : Int, ∃ A2341 : Option Addr, ∃ C2342 : Nat, ∃ A2344 : Option Addr, ∃ C2345 : Nat, Sat 111 [(1, .int .u16 a6), (2, .int .u8 a7), (3, .int .u8 a8), (9, .pointer (some ⟨g1573, 0, none⟩)), (10, .pointer (some ⟨g1585, 0, none⟩)), (11, .int .i64 (IntKind.i64.wrap (Int.tmod a5 12))), (12, .int .i64 x2346)] a ∧ St B w (Ass.box 93 g1585 [.slice A2341 x2340.length C2342] :: Ass.own 60 kS60 A2341 C2342 x2340 :: Ass.box 91 g1573 [.slice A2344 x2343.length C2345, .slice A1576 t1572.length C1577] :: Ass.deep 94 96 kS96 A2344 C2345 x2343 :: Ass.own 3 (Kd.int .i64) A1576 C1577 t1572 :: os) (Ro.sl (Kd.int .i64) (some ⟨g1569, 0, none⟩) 1 l1570 :: Ro.sl (Kd.int .i64) (some ⟨g1569, 0, none⟩) 1 l1570 :: rs) ∧ confidantlaw20_ParkFuel.l0 K a5 t1572 a6 j2235 n x2340 x2343 x2346 = some x1548) K (by kernel_rfl) ?_ (fun n a w hI => ?_)
      · refine EQ.keep [1, 2, 3, 9, 10, 11, 12] [(1, .int .u16 a6), (2, .int .u8 a7), (3, .int .u8 a8), (9, .pointer (some ⟨g1573, 0, none⟩)), (10, .pointer (some ⟨g1585, 0, none⟩)), (11, .int .i64 (IntKind.i64.wrap (Int.tmod a5 12))), (12, .int .i64 0)] (by kernel_rfl) ?_
        exact fun a ha => ⟨t1584, t1571, 0, A1586, C1587, A1574, C1575, ha, (hS.re [4, 4, 4, 4, 4] [] rfl (sub_cons 0 rfl (sub_cons 0 rfl (sub_tail (sub_tail (sub_self)))))), H⟩
      · obtain ⟨x2340, x2343, x2346, A2341, C2342, A2344, C2345, ha, hS, H⟩ := hI
        obtain _ | n := n
        · simp [confidantlaw20_ParkFuel.l0] at H
        rw [confidantlaw20_ParkFuel.l0.eq_2] at H
        refine EW.at ?_ a ha
        clear ha a
        refine EW.seq (x := Cd4.r.r.r.r.r.l.r.l.l.l) (y := Cd4.r.r.r.r.r.l.r.l.l.r) (by kernel_rfl) ?_
        refine EW.seq (x := Cd4.r.r.r.r.r.l.r.l.l.l.l) (y := Cd4.r.r.r.r.r.l.r.l.l.l.r) (by kernel_rfl) ?_
        refine EW.region (id := 7) (ops := Cd4.r.r.r.r.r.l.r.l.l.l.l.ops) (by kernel_rfl) ?_
        refine EL.quick 3 [1, 2, 3, 9, 10, 11, 12, 31] [(1, .int .u16 a6), (2, .int .u8 a7), (3, .int .u8 a8), (9, .pointer (some ⟨g1573, 0, none⟩)), (10, .pointer (some ⟨g1585, 0, none⟩)), (11, .int .i64 (IntKind.i64.wrap (Int.tmod a5 12))), (12, .int .i64 x2346), (31, .bool (decide (x2346 < (IntKind.i64.wrap (Int.tmod a5 12)))))] (by kernel_rfl) ?_
        refine EL.done (by kernel_rfl) ?_
        refine EQ.code ?_
        refine EW.condP (o := (.tmp 31)) (x := Cd4.r.r.r.r.r.l.r.l.l.l.r.l) (y := Cd4.r.r.r.r.r.l.r.l.l.l.r.r) (x2346 < (IntKind.i64.wrap (Int.tmod a5 12))) (by kernel_rfl) (by kernel_rfl) (fun h2458 => ?_) (fun h2458 => ?_)
        · rw [if_pos h2458] at H
          refine EW.skip (by kernel_rfl) ?_
          refine EQ.code ?_
          obtain ⟨j2524, hj2524, H⟩ := lt_out H
          refine EW.cut (x := Cd4.r.r.r.r.r.l.r.l.l.r.l) (y := Cd4.r.r.r.r.r.l.r.l.l.r.r) (fun a w => ∃ x2518 : List (List S96), ∃ x2521 : List S60, ∃ A2519 : Option Addr, ∃ C2520 : Nat, ∃ A2522 : Option Addr, ∃ C2523 : Nat, Sat 111 [(1, .int .u16 a6), (2, .int .u8 a7), (3, .int .u8 a8), (9, .pointer (some ⟨g1573, 0, none⟩)), (10, .pointer (some ⟨g1585, 0, none⟩)), (11, .int .i64 (IntKind.i64.wrap (Int.tmod a5 12))), (12, .int .i64 x2346)] a ∧ St B w (Ass.box 91 g1573 [.slice A2519 x2518.length C2520, .slice A1576 t1572.length C1577] :: Ass.deep 94 96 kS96 A2519 C2520 x2518 :: Ass.own 3 (Kd.int .i64) A1576 C1577 t1572 :: Ass.box 93 g1585 [.slice A2522 x2521.length C2523] :: Ass.own 60 kS60 A2522 C2523 x2521 :: os) (Ro.sl (Kd.int .i32) none 0 ([] : List Int) :: Ro.sl (Kd.int .i32) none 0 ([] : List Int) :: Ro.sl (Kd.int .i64) (some ⟨g1569, 0, none⟩) 1 l1570 :: Ro.sl (Kd.int .i64) (some ⟨g1569, 0, none⟩) 1 l1570 :: rs) ∧ j2524 x2518 x2521 = some x1548) (by kernel_rfl) ?_ (fun a w hI => ?_)
          · refine EW.block (x := Cd4.r.r.r.r.r.l.r.l.l.r.l.l) (id := 1) (by kernel_rfl) ?_
            refine EW.seq (x := Cd4.r.r.r.r.r.l.r.l.l.r.l.l.l) (y := Cd4.r.r.r.r.r.l.r.l.l.r.l.l.r) (by kernel_rfl) ?_
            refine EW.region (id := 9) (ops := Cd4.r.r.r.r.r.l.r.l.l.r.l.l.l.ops) (by kernel_rfl) ?_
            refine EL.quick 1 [1, 2, 3, 9, 10, 11, 12, 35] [(1, .int .u16 a6), (2, .int .u8 a7), (3, .int .u8 a8), (9, .pointer (some ⟨g1573, 0, none⟩)), (10, .pointer (some ⟨g1585, 0, none⟩)), (11, .int .i64 (IntKind.i64.wrap (Int.tmod a5 12))), (12, .int .i64 x2346), (35, .pointer (some ⟨g1573, 0, none⟩))] (by kernel_rfl) ?_
            have hS : St B _ (Ass.box 91 g1573 [.slice A2344 x2343.length C2345, .slice A1576 t1572.length C1577] :: Ass.deep 94 96 kS96 A2344 C2345 x2343 :: Ass.own 3 (Kd.int .i64) A1576 C1577 t1572 :: Ass.box 93 g1585 [.slice A2341 x2340.length C2342] :: Ass.own 60 kS60 A2341 C2342 x2340 :: os) (Ro.sl (Kd.int .i64) (some ⟨g1569, 0, none⟩) 1 l1570 :: Ro.sl (Kd.int .i64) (some ⟨g1569, 0, none⟩) 1 l1570 :: rs) := hS.re [4, 4, 4] [] rfl sub_self
            obtain ⟨t2531, t2532, t2533, hc2536, H⟩ := b3_out H
            refine EL.of (EO.callD 13 [.pointer (some ⟨g1573, 0, none⟩), .int .i64 0, .int .i64 0] _ 36 (by kernel_rfl) (by kernel_rfl) (by kernel_rfl) (future_Futures_Make.calls hc2536 hS) ?_)
            rintro v w ⟨A2534, C2535, rfl, hS⟩
            refine EL.quick 5 [1, 2, 3, 9, 10, 11, 12, 13] [(1, .int .u16 a6), (2, .int .u8 a7), (3, .int .u8 a8), (9, .pointer (some ⟨g1573, 0, none⟩)), (10, .pointer (some ⟨g1585, 0, none⟩)), (11, .int .i64 (IntKind.i64.wrap (Int.tmod a5 12))), (12, .int .i64 x2346), (13, .int .i32 t2532)] (by kernel_rfl) ?_
            refine EL.done (by kernel_rfl) ?_
            refine EQ.code ?_
            refine EW.seq (x := Cd4.r.r.r.r.r.l.r.l.l.r.l.l.r.l) (y := Cd4.r.r.r.r.r.l.r.l.l.r.l.l.r.r) (by kernel_rfl) ?_
            refine EW.region (id := 10) (ops := Cd4.r.r.r.r.r.l.r.l.l.r.l.l.r.l.ops) (by kernel_rfl) ?_
            refine EL.quick 5 [1, 2, 3, 9, 10, 11, 12, 13, 39, 42, 43] [(1, .int .u16 a6), (2, .int .u8 a7), (3, .int .u8 a8), (9, .pointer (some ⟨g1573, 0, none⟩)), (10, .pointer (some ⟨g1585, 0, none⟩)), (11, .int .i64 (IntKind.i64.wrap (Int.tmod a5 12))), (12, .int .i64 x2346), (13, .int .i32 t2532), (39, .pointer (some ⟨g1585, 0, none⟩)), (42, .agg #[.int .i32 (IntKind.i32.wrap x2346), .int .i64 0, .int .i64 0, .slice none ([] : List Int).length 0, .int .i32 0, .int .i32 0, .int .i32 0, .int .i32 0, .int .i64 0, .int .i64 0, .int .u32 0, .int .i64 0]), (43, .int .i32 t2532)] (by kernel_rfl) ?_
            have hS := St.nilR hS (Kd.int .i32)
            have hS : St B _ (Ass.box 93 g1585 [.slice A2341 x2340.length C2342] :: Ass.own 60 kS60 A2341 C2342 x2340 :: Ass.box 91 g1573 [.slice A2534 t2531.length C2535, .slice A1576 t1572.length C1577] :: Ass.deep 94 96 kS96 A2534 C2535 t2531 :: Ass.own 3 (Kd.int .i64) A1576 C1577 t1572 :: os) (Ro.sl (Kd.int .i32) none 0 ([] : List Int) :: Ro.sl (Kd.int .i32) none 0 ([] : List Int) :: Ro.sl (Kd.int .i64) (some ⟨g1569, 0, none⟩) 1 l1570 :: Ro.sl (Kd.int .i64) (some ⟨g1569, 0, none⟩) 1 l1570 :: rs) := hS.re [4, 4] [] rfl (sub_cons 0 rfl sub_self)
            obtain ⟨t2541, hc2544, H⟩ := b1_out H
            refine EL.of (EO.callD 15 [.pointer (some ⟨g1585, 0, none⟩), .agg #[.int .i32 (IntKind.i32.wrap x2346), .int .i64 0, .int .i64 0, .slice none ([] : List Int).length 0, .int .i32 0, .int .i32 0, .int .i32 0, .int .i32 0, .int .i64 0, .int .i64 0, .int .u32 0, .int .i64 0], .int .i32 t2532] _ 44 (by kernel_rfl) (by kernel_rfl) (by kernel_rfl) (park_Park_Add.calls hc2544 hS) ?_)
            rintro v w ⟨A2542, C2543, rfl, hS⟩
            refine EL.done (by kernel_rfl) ?_
            refine EQ.code ?_
            refine EW.seq (x := Cd4.r.r.r.r.r.l.r.l.l.r.l.l.r.r.l) (y := Cd4.r.r.r.r.r.l.r.l.l.r.l.l.r.r.r) (by kernel_rfl) ?_
            refine EW.region (id := 11) (ops := Cd4.r.r.r.r.r.l.r.l.l.r.l.l.r.r.l.ops) (by kernel_rfl) ?_
            refine EL.quick 2 [1, 2, 3, 9, 10, 11, 12, 13, 45, 46] [(1, .int .u16 a6), (2, .int .u8 a7), (3, .int .u8 a8), (9, .pointer (some ⟨g1573, 0, none⟩)), (10, .pointer (some ⟨g1585, 0, none⟩)), (11, .int .i64 (IntKind.i64.wrap (Int.tmod a5 12))), (12, .int .i64 x2346), (13, .int .i32 t2532), (45, .int .u16 a6), (46, .int .i64 x2346)] (by kernel_rfl) ?_
            obtain ⟨h2546, H⟩ := ite_out H
            refine EL.of (EO.Y (YO.shift .shr .u16 .i64 a6 x2346 (sR .u16 a6 x2346) 47 (by kernel_rfl) (by kernel_rfl) (by kernel_rfl) h2546 (by first | exact .inl ⟨rfl, rfl⟩ | exact .inr ⟨rfl, rfl⟩)) ?_)
            refine EL.quick 2 [1, 2, 3, 9, 10, 11, 12, 13, 49] [(1, .int .u16 a6), (2, .int .u8 a7), (3, .int .u8 a8), (9, .pointer (some ⟨g1573, 0, none⟩)), (10, .pointer (some ⟨g1585, 0, none⟩)), (11, .int .i64 (IntKind.i64.wrap (Int.tmod a5 12))), (12, .int .i64 x2346), (13, .int .i32 t2532), (49, .bool (decide ((bA .u16 (sR .u16 a6 x2346) 1) = 1)))] (by kernel_rfl) ?_
            refine EL.done (by kernel_rfl) ?_
            refine EQ.code ?_
            refine EW.condP (o := (.tmp 49)) (x := Cd4.r.r.r.r.r.l.r.l.l.r.l.l.r.r.r.l) (y := Cd4.r.r.r.r.r.l.r.l.l.r.l.l.r.r.r.r) ((bA .u16 (sR .u16 a6 x2346) 1) = 1) (by kernel_rfl) (by kernel_rfl) (fun h2547 => ?_) (fun h2547 => ?_)
            · rw [if_pos h2547] at H
              refine EW.region (id := 12) (ops := Cd4.r.r.r.r.r.l.r.l.l.r.l.l.r.r.r.l.ops) (by kernel_rfl) ?_
              refine EL.quick 2 [1, 2, 3, 9, 10, 11, 12, 50, 51] [(1, .int .u16 a6), (2, .int .u8 a7), (3, .int .u8 a8), (9, .pointer (some ⟨g1573, 0, none⟩)), (10, .pointer (some ⟨g1585, 0, none⟩)), (11, .int .i64 (IntKind.i64.wrap (Int.tmod a5 12))), (12, .int .i64 x2346), (50, .pointer (some ⟨g1573, 0, none⟩)), (51, .int .i32 t2532)] (by kernel_rfl) ?_
              have hS : St B _ (Ass.box 91 g1573 [.slice A2534 t2531.length C2535, .slice A1576 t1572.length C1577] :: Ass.deep 94 96 kS96 A2534 C2535 t2531 :: Ass.own 3 (Kd.int .i64) A1576 C1577 t1572 :: Ass.box 93 g1585 [.slice A2542 t2541.length C2543] :: Ass.own 60 kS60 A2542 C2543 t2541 :: os) (Ro.sl (Kd.int .i32) none 0 ([] : List Int) :: Ro.sl (Kd.int .i32) none 0 ([] : List Int) :: Ro.sl (Kd.int .i64) (some ⟨g1569, 0, none⟩) 1 l1570 :: Ro.sl (Kd.int .i64) (some ⟨g1569, 0, none⟩) 1 l1570 :: rs) := hS.re [4, 4, 4] [] rfl sub_self
              obtain ⟨t2548, t2549, hc2552, H⟩ := b2_out H
              refine EL.of (EO.callD 14 [.pointer (some ⟨g1573, 0, none⟩), .int .i32 t2532, .int .i32 1] _ 52 (by kernel_rfl) (by kernel_rfl) (by kernel_rfl) (future_Futures_Keep.calls hc2552 hS) ?_)
              rintro v w ⟨A2550, C2551, rfl, hS⟩
              refine EL.done (by kernel_rfl) ?_
              refine EQ.pop ?_
              refine EQ.to ?_
              refine EQ.keep [1, 2, 3, 9, 10, 11, 12] [(1, .int .u16 a6), (2, .int .u8 a7), (3, .int .u8 a8), (9, .pointer (some ⟨g1573, 0, none⟩)), (10, .pointer (some ⟨g1585, 0, none⟩)), (11, .int .i64 (IntKind.i64.wrap (Int.tmod a5 12))), (12, .int .i64 x2346)] (by kernel_rfl) ?_
              exact fun a ha => ⟨t2548, t2541, A2550, C2551, A2542, C2543, ha, (hS.re [4, 4, 4, 4, 4] [] rfl (sub_cons 0 rfl (sub_cons 0 rfl (sub_cons 2 rfl (sub_cons 2 rfl (sub_tail (sub_tail (sub_tail (sub_tail (sub_self)))))))))), H⟩
            · rw [if_neg h2547] at H
              refine EW.skip (by kernel_rfl) ?_
              refine EQ.pop ?_
              refine EQ.to ?_
              refine EQ.keep [1, 2, 3, 9, 10, 11, 12] [(1, .int .u16 a6), (2, .int .u8 a7), (3, .int .u8 a8), (9, .pointer (some ⟨g1573, 0, none⟩)), (10, .pointer (some ⟨g1585, 0, none⟩)), (11, .int .i64 (IntKind.i64.wrap (Int.tmod a5 12))), (12, .int .i64 x2346)] (by kernel_rfl) ?_
              exact fun a ha => ⟨t2531, t2541, A2534, C2535, A2542, C2543, ha, (hS.re [1, 1, 4, 4, 4] [] rfl (sub_cons 0 rfl (sub_cons 0 rfl (sub_cons 2 rfl (sub_cons 2 rfl (sub_tail (sub_tail (sub_tail (sub_tail (sub_self)))))))))), H⟩
          · obtain ⟨x2518, x2521, A2519, C2520, A2522, C2523, ha, hS, H⟩ := hI
            rw [hj2524] at H
            (try dsimp only at H)
            refine EW.at ?_ a ha
            clear ha a
            refine EW.region (id := 8) (ops := Cd4.r.r.r.r.r.l.r.l.l.r.r.ops) (by kernel_rfl) ?_
            refine EL.quick 3 [1, 2, 3, 9, 10, 11, 12] [(1, .int .u16 a6), (2, .int .u8 a7), (3, .int .u8 a8), (9, .pointer (some ⟨g1573, 0, none⟩)), (10, .pointer (some ⟨g1585, 0, none⟩)), (11, .int .i64 (IntKind.i64.wrap (Int.tmod a5 12))), (12, .int .i64 (IntKind.i64.wrap (x2346 + 1)))] (by kernel_rfl) ?_
            refine EL.done (by kernel_rfl) ?_
            refine EQ.to ?_
            refine EQ.keep [1, 2, 3, 9, 10, 11, 12] [(1, .int .u16 a6), (2, .int .u8 a7), (3, .int .u8 a8), (9, .pointer (some ⟨g1573, 0, none⟩)), (10, .pointer (some ⟨g1585, 0, none⟩)), (11, .int .i64 (IntKind.i64.wrap (Int.tmod a5 12))), (12, .int .i64 (IntKind.i64.wrap (x2346 + 1)))] (by kernel_rfl) ?_
            exact fun a ha => ⟨n, Nat.lt_succ_self n, x2521, x2518, IntKind.i64.wrap (x2346 + 1), A2522, C2523, A2519, C2520, ha, (hS.re [2, 2, 2, 4, 4] [] rfl (sub_cons 2 rfl (sub_cons 2 rfl (sub_tail (sub_tail (sub_tail (sub_tail (sub_self)))))))), H⟩
        · rw [if_neg h2458] at H
          refine EW.exit (id := 0) (by kernel_rfl) ?_
          refine EQ.exitCode ?_
          refine EQ.exitTo ?_
          refine EQ.exitHere ?_
          refine EQ.to ?_
          refine EQ.keep [2, 3, 9, 10] [(2, .int .u8 a7), (3, .int .u8 a8), (9, .pointer (some ⟨g1573, 0, none⟩)), (10, .pointer (some ⟨g1585, 0, none⟩))] (by kernel_rfl) ?_
          exact fun a ha => ⟨x2340, x2343, A2341, C2342, A2344, C2345, ha, (hS.re [4, 4, 4, 4, 4] [] rfl (sub_cons 0 rfl (sub_cons 0 rfl (sub_tail (sub_tail (sub_self)))))), H⟩
    · obtain ⟨x2229, x2232, A2230, C2231, A2233, C2234, ha, hS, H⟩ := hI
      rw [hj2235] at H
      (try dsimp only at H)
      refine EW.at ?_ a ha
      clear ha a
      refine EW.seq (x := Cd4.r.r.r.r.r.r.l) (y := Cd4.r.r.r.r.r.r.r) (by kernel_rfl) ?_
      refine EW.region (id := 13) (ops := Cd4.r.r.r.r.r.r.l.ops) (by kernel_rfl) ?_
      refine EL.quick 4 [3, 9, 10, 15] [(3, .int .u8 a8), (9, .pointer (some ⟨g1573, 0, none⟩)), (10, .pointer (some ⟨g1585, 0, none⟩)), (15, .int .i64 (IntKind.i64.wrap (Int.tmod a7 60)))] (by kernel_rfl) ?_
      refine EL.done (by kernel_rfl) ?_
      refine EQ.code ?_
      refine EW.seq (x := Cd4.r.r.r.r.r.r.r.l) (y := Cd4.r.r.r.r.r.r.r.r) (by kernel_rfl) ?_
      refine EW.seq (x := Cd4.r.r.r.r.r.r.r.l.l) (y := Cd4.r.r.r.r.r.r.r.l.r) (by kernel_rfl) ?_
      refine EW.region (id := 14) (ops := Cd4.r.r.r.r.r.r.r.l.l.ops) (by kernel_rfl) ?_
      refine EL.quick 1 [3, 9, 10, 15, 16] [(3, .int .u8 a8), (9, .pointer (some ⟨g1573, 0, none⟩)), (10, .pointer (some ⟨g1585, 0, none⟩)), (15, .int .i64 (IntKind.i64.wrap (Int.tmod a7 60))), (16, .int .i64 0)] (by kernel_rfl) ?_
      refine EL.done (by kernel_rfl) ?_
      refine EQ.code ?_
      refine EW.block (x := Cd4.r.r.r.r.r.r.r.l.r.l) (id := 2) (by kernel_rfl) ?_
      refine EW.loop (x := Cd4.r.r.r.r.r.r.r.l.r.l.l) (fun n a w => ∃ x2717 : List S60, ∃ x2720 : Int, ∃ x2721 : Int, ∃ A2718 : Option Addr, ∃ C2719 : Nat, Sat 111 [(3, .int .u8 a8), (9, .pointer (some ⟨g1573, 0, none⟩)), (10, .pointer (some ⟨g1585, 0, none⟩)), (15, .int .i64 x2720), (16, .int .i64 x2721)] a ∧ St B w (Ass.box 93 g1585 [.slice A2718 x2717.length C2719] :: Ass.box 91 g1573 [.slice A2233 x2232.length C2234, .slice A1576 t1572.length C1577] :: Ass.deep 94 96 kS96 A2233 C2234 x2232 :: Ass.own 3 (Kd.int .i64) A1576 C1577 t1572 :: Ass.own 60 kS60 A2718 C2719 x2717 :: os) (Ro.sl (Kd.int .i64) (some ⟨g1569, 0, none⟩) 1 l1570 :: Ro.sl (Kd.int .i64) (some ⟨g1569, 0, none⟩) 1 l1570 :: rs) ∧ confidantlaw20_ParkFuel.l1 K a8 x2232 t1572 n x2717 x2720 x2721 = some x1548) K (by kernel_rfl) ?_ (fun n a w hI => ?_)
      · refine EQ.keep [3, 9, 10, 15, 16] [(3, .int .u8 a8), (9, .pointer (some ⟨g1573, 0, none⟩)), (10, .pointer (some ⟨g1585, 0, none⟩)), (15, .int .i64 (IntKind.i64.wrap (Int.tmod a7 60))), (16, .int .i64 0)] (by kernel_rfl) ?_
        exact fun a ha => ⟨x2229, IntKind.i64.wrap (Int.tmod a7 60), 0, A2230, C2231, ha, (hS.re [1, 4, 4, 4, 4] [] rfl (sub_cons 0 rfl (sub_cons 0 rfl (sub_tail (sub_tail (sub_self)))))), H⟩
      · obtain ⟨x2717, x2720, x2721, A2718, C2719, ha, hS, H⟩ := hI
        obtain _ | n := n
        · simp [confidantlaw20_ParkFuel.l1] at H
        rw [confidantlaw20_ParkFuel.l1.eq_2] at H
        refine EW.at ?_ a ha
        clear ha a
        refine EW.seq (x := Cd4.r.r.r.r.r.r.r.l.r.l.l.l) (y := Cd4.r.r.r.r.r.r.r.l.r.l.l.r) (by kernel_rfl) ?_
        refine EW.seq (x := Cd4.r.r.r.r.r.r.r.l.r.l.l.l.l) (y := Cd4.r.r.r.r.r.r.r.l.r.l.l.l.r) (by kernel_rfl) ?_
        refine EW.region (id := 15) (ops := Cd4.r.r.r.r.r.r.r.l.r.l.l.l.l.ops) (by kernel_rfl) ?_
        refine EL.quick 5 [3, 9, 10, 15, 16, 60] [(3, .int .u8 a8), (9, .pointer (some ⟨g1573, 0, none⟩)), (10, .pointer (some ⟨g1585, 0, none⟩)), (15, .int .i64 x2720), (16, .int .i64 x2721), (60, .bool (decide (x2721 < (IntKind.i64.wrap (Int.tmod a8 6)))))] (by kernel_rfl) ?_
        refine EL.done (by kernel_rfl) ?_
        refine EQ.code ?_
        refine EW.condP (o := (.tmp 60)) (x := Cd4.r.r.r.r.r.r.r.l.r.l.l.l.r.l) (y := Cd4.r.r.r.r.r.r.r.l.r.l.l.l.r.r) (x2721 < (IntKind.i64.wrap (Int.tmod a8 6))) (by kernel_rfl) (by kernel_rfl) (fun h2911 => ?_) (fun h2911 => ?_)
        · rw [if_pos h2911] at H
          refine EW.skip (by kernel_rfl) ?_
          refine EQ.code ?_
          refine EW.seq (x := Cd4.r.r.r.r.r.r.r.l.r.l.l.r.l) (y := Cd4.r.r.r.r.r.r.r.l.r.l.l.r.r) (by kernel_rfl) ?_
          refine EW.block (x := Cd4.r.r.r.r.r.r.r.l.r.l.l.r.l.l) (id := 3) (by kernel_rfl) ?_
          refine EW.seq (x := Cd4.r.r.r.r.r.r.r.l.r.l.l.r.l.l.l) (y := Cd4.r.r.r.r.r.r.r.l.r.l.l.r.l.l.r) (by kernel_rfl) ?_
          refine EW.region (id := 17) (ops := Cd4.r.r.r.r.r.r.r.l.r.l.l.r.l.l.l.ops) (by kernel_rfl) ?_
          refine EL.quick 1 [3, 9, 10, 15, 16, 63] [(3, .int .u8 a8), (9, .pointer (some ⟨g1573, 0, none⟩)), (10, .pointer (some ⟨g1585, 0, none⟩)), (15, .int .i64 x2720), (16, .int .i64 x2721), (63, .pointer (some ⟨g1585, 0, none⟩))] (by kernel_rfl) ?_
          have hS : St B _ (Ass.box 93 g1585 [.slice A2718 x2717.length C2719] :: Ass.own 60 kS60 A2718 C2719 x2717 :: Ass.box 91 g1573 [.slice A2233 x2232.length C2234, .slice A1576 t1572.length C1577] :: Ass.deep 94 96 kS96 A2233 C2234 x2232 :: Ass.own 3 (Kd.int .i64) A1576 C1577 t1572 :: os) (Ro.sl (Kd.int .i64) (some ⟨g1569, 0, none⟩) 1 l1570 :: Ro.sl (Kd.int .i64) (some ⟨g1569, 0, none⟩) 1 l1570 :: rs) := hS.re [4, 1] [] rfl sub_self
          obtain ⟨t3002, hc3003, H⟩ := b1_out H
          refine EL.of (EO.callD 17 [.pointer (some ⟨g1585, 0, none⟩)] _ 64 (by kernel_rfl) (by kernel_rfl) (by kernel_rfl) (park_Park_Len.calls hc3003 hS) ?_)
          rintro v w ⟨rfl, hS⟩
          refine EL.quick 1 [3, 9, 10, 15, 16, 17] [(3, .int .u8 a8), (9, .pointer (some ⟨g1573, 0, none⟩)), (10, .pointer (some ⟨g1585, 0, none⟩)), (15, .int .i64 x2720), (16, .int .i64 x2721), (17, .int .i64 t3002)] (by kernel_rfl) ?_
          refine EL.done (by kernel_rfl) ?_
          refine EQ.code ?_
          refine EW.seq (x := Cd4.r.r.r.r.r.r.r.l.r.l.l.r.l.l.r.l) (y := Cd4.r.r.r.r.r.r.r.l.r.l.l.r.l.l.r.r) (by kernel_rfl) ?_
          refine EW.region (id := 18) (ops := Cd4.r.r.r.r.r.r.r.l.r.l.l.r.l.l.r.l.ops) (by kernel_rfl) ?_
          refine EL.quick 3 [3, 9, 10, 15, 16, 17, 66, 67, 68] [(3, .int .u8 a8), (9, .pointer (some ⟨g1573, 0, none⟩)), (10, .pointer (some ⟨g1585, 0, none⟩)), (15, .int .i64 x2720), (16, .int .i64 x2721), (17, .int .i64 t3002), (66, .pointer (some ⟨g1585, 0, none⟩)), (67, .pointer (some ⟨g1573, 0, none⟩)), (68, .int .i64 x2720)] (by kernel_rfl) ?_
          obtain ⟨t3015, t3016, t3017, t3018, hc3025, H⟩ := b4_out H
          refine EL.of (EO.callD 16 [.pointer (some ⟨g1585, 0, none⟩), .pointer (some ⟨g1573, 0, none⟩), .int .i64 x2720] _ 69 (by kernel_rfl) (by kernel_rfl) (by kernel_rfl) (park_Park_Look.calls hc3025 hS) ?_)
          rintro v w ⟨A3019, C3020, A3021, C3022, A3023, C3024, rfl, hS⟩
          refine EL.quick 7 [3, 9, 10, 15, 16, 17, 18, 19, 20] [(3, .int .u8 a8), (9, .pointer (some ⟨g1573, 0, none⟩)), (10, .pointer (some ⟨g1585, 0, none⟩)), (15, .int .i64 x2720), (16, .int .i64 x2721), (17, .int .i64 t3002), (18, .slice A3021 t3016.length C3022), (19, .slice A3023 t3017.length C3024), (20, .int .i64 t3018)] (by kernel_rfl) ?_
          refine EL.done (by kernel_rfl) ?_
          refine EQ.code ?_
          refine EW.seq (x := Cd4.r.r.r.r.r.r.r.l.r.l.l.r.l.l.r.r.l) (y := Cd4.r.r.r.r.r.r.r.l.r.l.l.r.l.l.r.r.r) (by kernel_rfl) ?_
          obtain ⟨j3077, hj3077, H⟩ := lt_out H
          refine EW.cut (x := Cd4.r.r.r.r.r.r.r.l.r.l.l.r.l.l.r.r.l.l) (y := Cd4.r.r.r.r.r.r.r.l.r.l.l.r.l.l.r.r.l.r) (fun a w => ∃ x3076 : Bool, Sat 111 [(3, .int .u8 a8), (9, .pointer (some ⟨g1573, 0, none⟩)), (10, .pointer (some ⟨g1585, 0, none⟩)), (16, .int .i64 x2721), (20, .int .i64 t3018), (109, .bool (x3076))] a ∧ St B w (Ass.box 93 g1585 [.slice A3019 t3015.length C3020] :: Ass.own 60 kS60 A3019 C3020 t3015 :: Ass.own 60 kS60 A2718 C2719 x2717 :: Ass.box 91 g1573 [.slice A2233 x2232.length C2234, .slice A1576 t1572.length C1577] :: Ass.deep 94 96 kS96 A2233 C2234 x2232 :: Ass.own 3 (Kd.int .i64) A1576 C1577 t1572 :: Ass.own 36 kS36 A3021 C3022 t3016 :: Ass.own 36 kS36 A3023 C3024 t3017 :: os) (Ro.sl (Kd.int .i64) (some ⟨g1569, 0, none⟩) 1 l1570 :: Ro.sl (Kd.int .i64) (some ⟨g1569, 0, none⟩) 1 l1570 :: rs) ∧ j3077 x3076 = some x1548) (by kernel_rfl) ?_ (fun a w hI => ?_)
          · refine EW.region (id := 19) (ops := Cd4.r.r.r.r.r.r.r.l.r.l.l.r.l.l.r.r.l.l.ops) (by kernel_rfl) ?_
            refine EL.quick 8 [3, 9, 10, 15, 16, 17, 18, 19, 20, 80] [(3, .int .u8 a8), (9, .pointer (some ⟨g1573, 0, none⟩)), (10, .pointer (some ⟨g1585, 0, none⟩)), (15, .int .i64 x2720), (16, .int .i64 x2721), (17, .int .i64 t3002), (18, .slice A3021 t3016.length C3022), (19, .slice A3023 t3017.length C3024), (20, .int .i64 t3018), (80, .bool (!(decide (t3018 = (IntKind.i64.wrap (x2720 - (mn t3002 x2720)))))))] (by kernel_rfl) ?_
            by_cases h3078 : t3018 = (IntKind.i64.wrap (x2720 - (mn t3002 x2720)))
            · rw [if_pos h3078] at H
              refine EL.keep [3, 9, 10, 15, 16, 17, 18, 19, 20, 80] [(3, .int .u8 a8), (9, .pointer (some ⟨g1573, 0, none⟩)), (10, .pointer (some ⟨g1585, 0, none⟩)), (15, .int .i64 x2720), (16, .int .i64 x2721), (17, .int .i64 t3002), (18, .slice A3021 t3016.length C3022), (19, .slice A3023 t3017.length C3024), (20, .int .i64 t3018), (80, .bool (!(decide (t3018 = (IntKind.i64.wrap (x2720 - (mn t3002 x2720)))))))] (by kernel_rfl) ?_
              refine EL.as' [(3, .int .u8 a8), (9, .pointer (some ⟨g1573, 0, none⟩)), (10, .pointer (some ⟨g1585, 0, none⟩)), (15, .int .i64 x2720), (16, .int .i64 x2721), (17, .int .i64 t3002), (18, .slice A3021 t3016.length C3022), (19, .slice A3023 t3017.length C3024), (20, .int .i64 t3018), (80, .bool (false))] (by simp only [dec_t h3078, Bool.not_true, Bool.not_false]) ?_
              refine EL.quick 9 [3, 9, 10, 16, 17, 18, 19, 20, 81, 82, 83, 84, 85, 86, 87, 89] [(3, .int .u8 a8), (9, .pointer (some ⟨g1573, 0, none⟩)), (10, .pointer (some ⟨g1585, 0, none⟩)), (16, .int .i64 x2721), (17, .int .i64 t3002), (18, .slice A3021 t3016.length C3022), (19, .slice A3023 t3017.length C3024), (20, .int .i64 t3018), (81, .slice A3023 t3017.length C3024), (82, .int .i64 (t3017.length : Int)), (83, .int .i64 t3002), (84, .int .i64 x2720), (85, .int .i64 (IntKind.i64.wrap (t3002 - x2720))), (86, .int .i64 (mx (IntKind.i64.wrap (t3002 - x2720)) 0)), (87, .bool (!(decide ((t3017.length : Int) = (mx (IntKind.i64.wrap (t3002 - x2720)) 0))))), (89, .bool (!(decide ((t3017.length : Int) = (mx (IntKind.i64.wrap (t3002 - x2720)) 0)))))] (by kernel_rfl) ?_
              by_cases h3079 : (t3017.length : Int) = (mx (IntKind.i64.wrap (t3002 - x2720)) 0)
              · rw [if_pos h3079] at H
                refine EL.keep [3, 9, 10, 16, 17, 18, 19, 20, 81, 82, 83, 84, 85, 86, 87, 89] [(3, .int .u8 a8), (9, .pointer (some ⟨g1573, 0, none⟩)), (10, .pointer (some ⟨g1585, 0, none⟩)), (16, .int .i64 x2721), (17, .int .i64 t3002), (18, .slice A3021 t3016.length C3022), (19, .slice A3023 t3017.length C3024), (20, .int .i64 t3018), (81, .slice A3023 t3017.length C3024), (82, .int .i64 (t3017.length : Int)), (83, .int .i64 t3002), (84, .int .i64 x2720), (85, .int .i64 (IntKind.i64.wrap (t3002 - x2720))), (86, .int .i64 (mx (IntKind.i64.wrap (t3002 - x2720)) 0)), (87, .bool (!(decide ((t3017.length : Int) = (mx (IntKind.i64.wrap (t3002 - x2720)) 0))))), (89, .bool (!(decide ((t3017.length : Int) = (mx (IntKind.i64.wrap (t3002 - x2720)) 0)))))] (by kernel_rfl) ?_
                refine EL.as' [(3, .int .u8 a8), (9, .pointer (some ⟨g1573, 0, none⟩)), (10, .pointer (some ⟨g1585, 0, none⟩)), (16, .int .i64 x2721), (17, .int .i64 t3002), (18, .slice A3021 t3016.length C3022), (19, .slice A3023 t3017.length C3024), (20, .int .i64 t3018), (81, .slice A3023 t3017.length C3024), (82, .int .i64 (t3017.length : Int)), (83, .int .i64 t3002), (84, .int .i64 x2720), (85, .int .i64 (IntKind.i64.wrap (t3002 - x2720))), (86, .int .i64 (mx (IntKind.i64.wrap (t3002 - x2720)) 0)), (87, .bool (false)), (89, .bool (false))] (by simp only [dec_t h3079, Bool.not_true, Bool.not_false]) ?_
                refine EL.quick 7 [3, 9, 10, 16, 18, 20, 81, 82, 83, 84, 85, 86, 87, 89, 90, 91, 92, 93, 94, 95, 96] [(3, .int .u8 a8), (9, .pointer (some ⟨g1573, 0, none⟩)), (10, .pointer (some ⟨g1585, 0, none⟩)), (16, .int .i64 x2721), (18, .slice A3021 t3016.length C3022), (20, .int .i64 t3018), (81, .slice A3023 t3017.length C3024), (82, .int .i64 (t3017.length : Int)), (83, .int .i64 t3002), (84, .int .i64 x2720), (85, .int .i64 (IntKind.i64.wrap (t3002 - x2720))), (86, .int .i64 (mx (IntKind.i64.wrap (t3002 - x2720)) 0)), (87, .bool (false)), (89, .bool (false)), (90, .int .i64 t3002), (91, .slice A3021 t3016.length C3022), (92, .int .i64 (t3016.length : Int)), (93, .slice A3023 t3017.length C3024), (94, .int .i64 (t3017.length : Int)), (95, .int .i64 (IntKind.i64.wrap ((t3016.length : Int) + (t3017.length : Int)))), (96, .pointer (some ⟨g1585, 0, none⟩))] (by kernel_rfl) ?_
                have hS : St B _ (Ass.box 93 g1585 [.slice A3019 t3015.length C3020] :: Ass.own 60 kS60 A3019 C3020 t3015 :: Ass.own 60 kS60 A2718 C2719 x2717 :: Ass.box 91 g1573 [.slice A2233 x2232.length C2234, .slice A1576 t1572.length C1577] :: Ass.deep 94 96 kS96 A2233 C2234 x2232 :: Ass.own 3 (Kd.int .i64) A1576 C1577 t1572 :: Ass.own 36 kS36 A3021 C3022 t3016 :: Ass.own 36 kS36 A3023 C3024 t3017 :: os) (Ro.sl (Kd.int .i64) (some ⟨g1569, 0, none⟩) 1 l1570 :: Ro.sl (Kd.int .i64) (some ⟨g1569, 0, none⟩) 1 l1570 :: rs) := hS.re [5, 1] [] rfl sub_self
                obtain ⟨t3080, hc3081, H⟩ := b1_out H
                refine EL.of (EO.callD 17 [.pointer (some ⟨g1585, 0, none⟩)] _ 97 (by kernel_rfl) (by kernel_rfl) (by kernel_rfl) (park_Park_Len.calls hc3081 hS) ?_)
                rintro v w ⟨rfl, hS⟩
                refine EL.quick 4 [3, 9, 10, 16, 18, 20, 81, 82, 83, 84, 85, 86, 87, 90, 91, 92, 93, 94, 95, 96, 97, 98, 99, 101] [(3, .int .u8 a8), (9, .pointer (some ⟨g1573, 0, none⟩)), (10, .pointer (some ⟨g1585, 0, none⟩)), (16, .int .i64 x2721), (18, .slice A3021 t3016.length C3022), (20, .int .i64 t3018), (81, .slice A3023 t3017.length C3024), (82, .int .i64 (t3017.length : Int)), (83, .int .i64 t3002), (84, .int .i64 x2720), (85, .int .i64 (IntKind.i64.wrap (t3002 - x2720))), (86, .int .i64 (mx (IntKind.i64.wrap (t3002 - x2720)) 0)), (87, .bool (false)), (90, .int .i64 t3002), (91, .slice A3021 t3016.length C3022), (92, .int .i64 (t3016.length : Int)), (93, .slice A3023 t3017.length C3024), (94, .int .i64 (t3017.length : Int)), (95, .int .i64 (IntKind.i64.wrap ((t3016.length : Int) + (t3017.length : Int)))), (96, .pointer (some ⟨g1585, 0, none⟩)), (97, .int .i64 t3080), (98, .int .i64 (IntKind.i64.wrap ((IntKind.i64.wrap ((t3016.length : Int) + (t3017.length : Int))) + t3080))), (99, .bool (!(decide (t3002 = (IntKind.i64.wrap ((IntKind.i64.wrap ((t3016.length : Int) + (t3017.length : Int))) + t3080)))))), (101, .bool (!(decide (t3002 = (IntKind.i64.wrap ((IntKind.i64.wrap ((t3016.length : Int) + (t3017.length : Int))) + t3080))))))] (by kernel_rfl) ?_
                by_cases h3082 : t3002 = (IntKind.i64.wrap ((IntKind.i64.wrap ((t3016.length : Int) + (t3017.length : Int))) + t3080))
                · rw [if_pos h3082] at H
                  refine EL.keep [3, 9, 10, 16, 18, 20, 81, 82, 83, 84, 85, 86, 87, 90, 91, 92, 93, 94, 95, 96, 97, 98, 99, 101] [(3, .int .u8 a8), (9, .pointer (some ⟨g1573, 0, none⟩)), (10, .pointer (some ⟨g1585, 0, none⟩)), (16, .int .i64 x2721), (18, .slice A3021 t3016.length C3022), (20, .int .i64 t3018), (81, .slice A3023 t3017.length C3024), (82, .int .i64 (t3017.length : Int)), (83, .int .i64 t3002), (84, .int .i64 x2720), (85, .int .i64 (IntKind.i64.wrap (t3002 - x2720))), (86, .int .i64 (mx (IntKind.i64.wrap (t3002 - x2720)) 0)), (87, .bool (false)), (90, .int .i64 t3002), (91, .slice A3021 t3016.length C3022), (92, .int .i64 (t3016.length : Int)), (93, .slice A3023 t3017.length C3024), (94, .int .i64 (t3017.length : Int)), (95, .int .i64 (IntKind.i64.wrap ((t3016.length : Int) + (t3017.length : Int)))), (96, .pointer (some ⟨g1585, 0, none⟩)), (97, .int .i64 t3080), (98, .int .i64 (IntKind.i64.wrap ((IntKind.i64.wrap ((t3016.length : Int) + (t3017.length : Int))) + t3080))), (99, .bool (!(decide (t3002 = (IntKind.i64.wrap ((IntKind.i64.wrap ((t3016.length : Int) + (t3017.length : Int))) + t3080)))))), (101, .bool (!(decide (t3002 = (IntKind.i64.wrap ((IntKind.i64.wrap ((t3016.length : Int) + (t3017.length : Int))) + t3080))))))] (by kernel_rfl) ?_
                  refine EL.as' [(3, .int .u8 a8), (9, .pointer (some ⟨g1573, 0, none⟩)), (10, .pointer (some ⟨g1585, 0, none⟩)), (16, .int .i64 x2721), (18, .slice A3021 t3016.length C3022), (20, .int .i64 t3018), (81, .slice A3023 t3017.length C3024), (82, .int .i64 (t3017.length : Int)), (83, .int .i64 t3002), (84, .int .i64 x2720), (85, .int .i64 (IntKind.i64.wrap (t3002 - x2720))), (86, .int .i64 (mx (IntKind.i64.wrap (t3002 - x2720)) 0)), (87, .bool (false)), (90, .int .i64 t3002), (91, .slice A3021 t3016.length C3022), (92, .int .i64 (t3016.length : Int)), (93, .slice A3023 t3017.length C3024), (94, .int .i64 (t3017.length : Int)), (95, .int .i64 (IntKind.i64.wrap ((t3016.length : Int) + (t3017.length : Int)))), (96, .pointer (some ⟨g1585, 0, none⟩)), (97, .int .i64 t3080), (98, .int .i64 (IntKind.i64.wrap ((IntKind.i64.wrap ((t3016.length : Int) + (t3017.length : Int))) + t3080))), (99, .bool (false)), (101, .bool (false))] (by simp only [dec_t h3082, Bool.not_true, Bool.not_false]) ?_
                  refine EL.quick 3 [3, 9, 10, 16, 18, 20, 81, 82, 83, 84, 85, 86, 87, 90, 91, 92, 93, 94, 95, 96, 97, 98, 99, 101, 102, 103, 104] [(3, .int .u8 a8), (9, .pointer (some ⟨g1573, 0, none⟩)), (10, .pointer (some ⟨g1585, 0, none⟩)), (16, .int .i64 x2721), (18, .slice A3021 t3016.length C3022), (20, .int .i64 t3018), (81, .slice A3023 t3017.length C3024), (82, .int .i64 (t3017.length : Int)), (83, .int .i64 t3002), (84, .int .i64 x2720), (85, .int .i64 (IntKind.i64.wrap (t3002 - x2720))), (86, .int .i64 (mx (IntKind.i64.wrap (t3002 - x2720)) 0)), (87, .bool (false)), (90, .int .i64 t3002), (91, .slice A3021 t3016.length C3022), (92, .int .i64 (t3016.length : Int)), (93, .slice A3023 t3017.length C3024), (94, .int .i64 (t3017.length : Int)), (95, .int .i64 (IntKind.i64.wrap ((t3016.length : Int) + (t3017.length : Int)))), (96, .pointer (some ⟨g1585, 0, none⟩)), (97, .int .i64 t3080), (98, .int .i64 (IntKind.i64.wrap ((IntKind.i64.wrap ((t3016.length : Int) + (t3017.length : Int))) + t3080))), (99, .bool (false)), (101, .bool (false)), (102, .int .i64 x2721), (103, .bool (decide (x2721 > 0))), (104, .bool (decide (x2721 > 0)))] (by kernel_rfl) ?_
                  by_cases h3083 : x2721 > 0
                  · rw [if_pos h3083] at H
                    refine EL.keep [3, 9, 10, 16, 18, 20, 81, 82, 83, 84, 85, 86, 87, 90, 91, 92, 93, 94, 95, 96, 97, 98, 99, 101, 102, 103, 104] [(3, .int .u8 a8), (9, .pointer (some ⟨g1573, 0, none⟩)), (10, .pointer (some ⟨g1585, 0, none⟩)), (16, .int .i64 x2721), (18, .slice A3021 t3016.length C3022), (20, .int .i64 t3018), (81, .slice A3023 t3017.length C3024), (82, .int .i64 (t3017.length : Int)), (83, .int .i64 t3002), (84, .int .i64 x2720), (85, .int .i64 (IntKind.i64.wrap (t3002 - x2720))), (86, .int .i64 (mx (IntKind.i64.wrap (t3002 - x2720)) 0)), (87, .bool (false)), (90, .int .i64 t3002), (91, .slice A3021 t3016.length C3022), (92, .int .i64 (t3016.length : Int)), (93, .slice A3023 t3017.length C3024), (94, .int .i64 (t3017.length : Int)), (95, .int .i64 (IntKind.i64.wrap ((t3016.length : Int) + (t3017.length : Int)))), (96, .pointer (some ⟨g1585, 0, none⟩)), (97, .int .i64 t3080), (98, .int .i64 (IntKind.i64.wrap ((IntKind.i64.wrap ((t3016.length : Int) + (t3017.length : Int))) + t3080))), (99, .bool (false)), (101, .bool (false)), (102, .int .i64 x2721), (103, .bool (decide (x2721 > 0))), (104, .bool (decide (x2721 > 0)))] (by kernel_rfl) ?_
                    refine EL.as' [(3, .int .u8 a8), (9, .pointer (some ⟨g1573, 0, none⟩)), (10, .pointer (some ⟨g1585, 0, none⟩)), (16, .int .i64 x2721), (18, .slice A3021 t3016.length C3022), (20, .int .i64 t3018), (81, .slice A3023 t3017.length C3024), (82, .int .i64 (t3017.length : Int)), (83, .int .i64 t3002), (84, .int .i64 x2720), (85, .int .i64 (IntKind.i64.wrap (t3002 - x2720))), (86, .int .i64 (mx (IntKind.i64.wrap (t3002 - x2720)) 0)), (87, .bool (false)), (90, .int .i64 t3002), (91, .slice A3021 t3016.length C3022), (92, .int .i64 (t3016.length : Int)), (93, .slice A3023 t3017.length C3024), (94, .int .i64 (t3017.length : Int)), (95, .int .i64 (IntKind.i64.wrap ((t3016.length : Int) + (t3017.length : Int)))), (96, .pointer (some ⟨g1585, 0, none⟩)), (97, .int .i64 t3080), (98, .int .i64 (IntKind.i64.wrap ((IntKind.i64.wrap ((t3016.length : Int) + (t3017.length : Int))) + t3080))), (99, .bool (false)), (101, .bool (false)), (102, .int .i64 x2721), (103, .bool (true)), (104, .bool (true))] (by simp only [dec_t h3083, Bool.not_true, Bool.not_false]) ?_
                    refine EL.quick 5 [3, 9, 10, 16, 20, 81, 82, 83, 84, 85, 86, 87, 90, 91, 92, 93, 94, 95, 96, 97, 98, 99, 102, 103, 104, 105, 106, 107, 108, 109] [(3, .int .u8 a8), (9, .pointer (some ⟨g1573, 0, none⟩)), (10, .pointer (some ⟨g1585, 0, none⟩)), (16, .int .i64 x2721), (20, .int .i64 t3018), (81, .slice A3023 t3017.length C3024), (82, .int .i64 (t3017.length : Int)), (83, .int .i64 t3002), (84, .int .i64 x2720), (85, .int .i64 (IntKind.i64.wrap (t3002 - x2720))), (86, .int .i64 (mx (IntKind.i64.wrap (t3002 - x2720)) 0)), (87, .bool (false)), (90, .int .i64 t3002), (91, .slice A3021 t3016.length C3022), (92, .int .i64 (t3016.length : Int)), (93, .slice A3023 t3017.length C3024), (94, .int .i64 (t3017.length : Int)), (95, .int .i64 (IntKind.i64.wrap ((t3016.length : Int) + (t3017.length : Int)))), (96, .pointer (some ⟨g1585, 0, none⟩)), (97, .int .i64 t3080), (98, .int .i64 (IntKind.i64.wrap ((IntKind.i64.wrap ((t3016.length : Int) + (t3017.length : Int))) + t3080))), (99, .bool (false)), (102, .int .i64 x2721), (103, .bool (true)), (104, .bool (true)), (105, .slice A3021 t3016.length C3022), (106, .int .i64 (t3016.length : Int)), (107, .bool (decide ((t3016.length : Int) > 0))), (108, .bool (decide ((t3016.length : Int) > 0))), (109, .bool (decide ((t3016.length : Int) > 0)))] (by kernel_rfl) ?_
                    obtain ⟨y3084, hy3084, H⟩ := lt_out H
                    refine EL.keep [3, 9, 10, 16, 20, 81, 82, 83, 84, 85, 86, 87, 90, 91, 92, 93, 94, 95, 96, 97, 98, 99, 102, 103, 104, 105, 106, 107, 108, 109] [(3, .int .u8 a8), (9, .pointer (some ⟨g1573, 0, none⟩)), (10, .pointer (some ⟨g1585, 0, none⟩)), (16, .int .i64 x2721), (20, .int .i64 t3018), (81, .slice A3023 t3017.length C3024), (82, .int .i64 (t3017.length : Int)), (83, .int .i64 t3002), (84, .int .i64 x2720), (85, .int .i64 (IntKind.i64.wrap (t3002 - x2720))), (86, .int .i64 (mx (IntKind.i64.wrap (t3002 - x2720)) 0)), (87, .bool (false)), (90, .int .i64 t3002), (91, .slice A3021 t3016.length C3022), (92, .int .i64 (t3016.length : Int)), (93, .slice A3023 t3017.length C3024), (94, .int .i64 (t3017.length : Int)), (95, .int .i64 (IntKind.i64.wrap ((t3016.length : Int) + (t3017.length : Int)))), (96, .pointer (some ⟨g1585, 0, none⟩)), (97, .int .i64 t3080), (98, .int .i64 (IntKind.i64.wrap ((IntKind.i64.wrap ((t3016.length : Int) + (t3017.length : Int))) + t3080))), (99, .bool (false)), (102, .int .i64 x2721), (103, .bool (true)), (104, .bool (true)), (105, .slice A3021 t3016.length C3022), (106, .int .i64 (t3016.length : Int)), (107, .bool (decide ((t3016.length : Int) > 0))), (108, .bool (decide ((t3016.length : Int) > 0))), (109, .bool (decide ((t3016.length : Int) > 0)))] (by kernel_rfl) ?_
                    refine EL.as' [(3, .int .u8 a8), (9, .pointer (some ⟨g1573, 0, none⟩)), (10, .pointer (some ⟨g1585, 0, none⟩)), (16, .int .i64 x2721), (20, .int .i64 t3018), (81, .slice A3023 t3017.length C3024), (82, .int .i64 (t3017.length : Int)), (83, .int .i64 t3002), (84, .int .i64 x2720), (85, .int .i64 (IntKind.i64.wrap (t3002 - x2720))), (86, .int .i64 (mx (IntKind.i64.wrap (t3002 - x2720)) 0)), (87, .bool (false)), (90, .int .i64 t3002), (91, .slice A3021 t3016.length C3022), (92, .int .i64 (t3016.length : Int)), (93, .slice A3023 t3017.length C3024), (94, .int .i64 (t3017.length : Int)), (95, .int .i64 (IntKind.i64.wrap ((t3016.length : Int) + (t3017.length : Int)))), (96, .pointer (some ⟨g1585, 0, none⟩)), (97, .int .i64 t3080), (98, .int .i64 y3084), (99, .bool (false)), (102, .int .i64 x2721), (103, .bool (true)), (104, .bool (true)), (105, .slice A3021 t3016.length C3022), (106, .int .i64 (t3016.length : Int)), (107, .bool (decide ((t3016.length : Int) > 0))), (108, .bool (decide ((t3016.length : Int) > 0))), (109, .bool (decide ((t3016.length : Int) > 0)))] (by subst hy3084; rfl) ?_
                    refine EL.done (by kernel_rfl) ?_
                    refine EQ.to ?_
                    refine EQ.keep [3, 9, 10, 16, 20, 109] [(3, .int .u8 a8), (9, .pointer (some ⟨g1573, 0, none⟩)), (10, .pointer (some ⟨g1585, 0, none⟩)), (16, .int .i64 x2721), (20, .int .i64 t3018), (109, .bool (decide ((t3016.length : Int) > 0)))] (by kernel_rfl) ?_
                    exact fun a ha => ⟨decide ((t3016.length : Int) > 0), ha, (hS.re [7, 7, 7, 7, 7, 7, 7, 7] [] rfl (sub_cons 0 rfl (sub_cons 0 rfl (sub_tail (sub_tail (sub_self)))))), H⟩
                  · rw [if_neg h3083] at H
                    refine EL.keep [3, 9, 10, 16, 18, 20, 81, 82, 83, 84, 85, 86, 87, 90, 91, 92, 93, 94, 95, 96, 97, 98, 99, 101, 102, 103, 104] [(3, .int .u8 a8), (9, .pointer (some ⟨g1573, 0, none⟩)), (10, .pointer (some ⟨g1585, 0, none⟩)), (16, .int .i64 x2721), (18, .slice A3021 t3016.length C3022), (20, .int .i64 t3018), (81, .slice A3023 t3017.length C3024), (82, .int .i64 (t3017.length : Int)), (83, .int .i64 t3002), (84, .int .i64 x2720), (85, .int .i64 (IntKind.i64.wrap (t3002 - x2720))), (86, .int .i64 (mx (IntKind.i64.wrap (t3002 - x2720)) 0)), (87, .bool (false)), (90, .int .i64 t3002), (91, .slice A3021 t3016.length C3022), (92, .int .i64 (t3016.length : Int)), (93, .slice A3023 t3017.length C3024), (94, .int .i64 (t3017.length : Int)), (95, .int .i64 (IntKind.i64.wrap ((t3016.length : Int) + (t3017.length : Int)))), (96, .pointer (some ⟨g1585, 0, none⟩)), (97, .int .i64 t3080), (98, .int .i64 (IntKind.i64.wrap ((IntKind.i64.wrap ((t3016.length : Int) + (t3017.length : Int))) + t3080))), (99, .bool (false)), (101, .bool (false)), (102, .int .i64 x2721), (103, .bool (decide (x2721 > 0))), (104, .bool (decide (x2721 > 0)))] (by kernel_rfl) ?_
                    refine EL.as' [(3, .int .u8 a8), (9, .pointer (some ⟨g1573, 0, none⟩)), (10, .pointer (some ⟨g1585, 0, none⟩)), (16, .int .i64 x2721), (18, .slice A3021 t3016.length C3022), (20, .int .i64 t3018), (81, .slice A3023 t3017.length C3024), (82, .int .i64 (t3017.length : Int)), (83, .int .i64 t3002), (84, .int .i64 x2720), (85, .int .i64 (IntKind.i64.wrap (t3002 - x2720))), (86, .int .i64 (mx (IntKind.i64.wrap (t3002 - x2720)) 0)), (87, .bool (false)), (90, .int .i64 t3002), (91, .slice A3021 t3016.length C3022), (92, .int .i64 (t3016.length : Int)), (93, .slice A3023 t3017.length C3024), (94, .int .i64 (t3017.length : Int)), (95, .int .i64 (IntKind.i64.wrap ((t3016.length : Int) + (t3017.length : Int)))), (96, .pointer (some ⟨g1585, 0, none⟩)), (97, .int .i64 t3080), (98, .int .i64 (IntKind.i64.wrap ((IntKind.i64.wrap ((t3016.length : Int) + (t3017.length : Int))) + t3080))), (99, .bool (false)), (101, .bool (false)), (102, .int .i64 x2721), (103, .bool (false)), (104, .bool (false))] (by simp only [dec_f h3083, Bool.not_true, Bool.not_false]) ?_
                    refine EL.quick 5 [3, 9, 10, 16, 20, 81, 82, 83, 84, 85, 86, 87, 90, 91, 92, 93, 94, 95, 96, 97, 98, 99, 102, 103, 104, 108, 109] [(3, .int .u8 a8), (9, .pointer (some ⟨g1573, 0, none⟩)), (10, .pointer (some ⟨g1585, 0, none⟩)), (16, .int .i64 x2721), (20, .int .i64 t3018), (81, .slice A3023 t3017.length C3024), (82, .int .i64 (t3017.length : Int)), (83, .int .i64 t3002), (84, .int .i64 x2720), (85, .int .i64 (IntKind.i64.wrap (t3002 - x2720))), (86, .int .i64 (mx (IntKind.i64.wrap (t3002 - x2720)) 0)), (87, .bool (false)), (90, .int .i64 t3002), (91, .slice A3021 t3016.length C3022), (92, .int .i64 (t3016.length : Int)), (93, .slice A3023 t3017.length C3024), (94, .int .i64 (t3017.length : Int)), (95, .int .i64 (IntKind.i64.wrap ((t3016.length : Int) + (t3017.length : Int)))), (96, .pointer (some ⟨g1585, 0, none⟩)), (97, .int .i64 t3080), (98, .int .i64 (IntKind.i64.wrap ((IntKind.i64.wrap ((t3016.length : Int) + (t3017.length : Int))) + t3080))), (99, .bool (false)), (102, .int .i64 x2721), (103, .bool (false)), (104, .bool (false)), (108, .bool (false)), (109, .bool (false))] (by kernel_rfl) ?_
                    obtain ⟨y3085, hy3085, H⟩ := lt_out H
                    refine EL.keep [3, 9, 10, 16, 20, 81, 82, 83, 84, 85, 86, 87, 90, 91, 92, 93, 94, 95, 96, 97, 98, 99, 102, 103, 104, 108, 109] [(3, .int .u8 a8), (9, .pointer (some ⟨g1573, 0, none⟩)), (10, .pointer (some ⟨g1585, 0, none⟩)), (16, .int .i64 x2721), (20, .int .i64 t3018), (81, .slice A3023 t3017.length C3024), (82, .int .i64 (t3017.length : Int)), (83, .int .i64 t3002), (84, .int .i64 x2720), (85, .int .i64 (IntKind.i64.wrap (t3002 - x2720))), (86, .int .i64 (mx (IntKind.i64.wrap (t3002 - x2720)) 0)), (87, .bool (false)), (90, .int .i64 t3002), (91, .slice A3021 t3016.length C3022), (92, .int .i64 (t3016.length : Int)), (93, .slice A3023 t3017.length C3024), (94, .int .i64 (t3017.length : Int)), (95, .int .i64 (IntKind.i64.wrap ((t3016.length : Int) + (t3017.length : Int)))), (96, .pointer (some ⟨g1585, 0, none⟩)), (97, .int .i64 t3080), (98, .int .i64 (IntKind.i64.wrap ((IntKind.i64.wrap ((t3016.length : Int) + (t3017.length : Int))) + t3080))), (99, .bool (false)), (102, .int .i64 x2721), (103, .bool (false)), (104, .bool (false)), (108, .bool (false)), (109, .bool (false))] (by kernel_rfl) ?_
                    refine EL.as' [(3, .int .u8 a8), (9, .pointer (some ⟨g1573, 0, none⟩)), (10, .pointer (some ⟨g1585, 0, none⟩)), (16, .int .i64 x2721), (20, .int .i64 t3018), (81, .slice A3023 t3017.length C3024), (82, .int .i64 (t3017.length : Int)), (83, .int .i64 t3002), (84, .int .i64 x2720), (85, .int .i64 (IntKind.i64.wrap (t3002 - x2720))), (86, .int .i64 (mx (IntKind.i64.wrap (t3002 - x2720)) 0)), (87, .bool (false)), (90, .int .i64 t3002), (91, .slice A3021 t3016.length C3022), (92, .int .i64 (t3016.length : Int)), (93, .slice A3023 t3017.length C3024), (94, .int .i64 (t3017.length : Int)), (95, .int .i64 (IntKind.i64.wrap ((t3016.length : Int) + (t3017.length : Int)))), (96, .pointer (some ⟨g1585, 0, none⟩)), (97, .int .i64 t3080), (98, .int .i64 y3085), (99, .bool (false)), (102, .int .i64 x2721), (103, .bool (false)), (104, .bool (false)), (108, .bool (false)), (109, .bool (false))] (by subst hy3085; rfl) ?_
                    refine EL.done (by kernel_rfl) ?_
                    refine EQ.to ?_
                    refine EQ.keep [3, 9, 10, 16, 20, 109] [(3, .int .u8 a8), (9, .pointer (some ⟨g1573, 0, none⟩)), (10, .pointer (some ⟨g1585, 0, none⟩)), (16, .int .i64 x2721), (20, .int .i64 t3018), (109, .bool (false))] (by kernel_rfl) ?_
                    exact fun a ha => ⟨false, ha, (hS.re [7, 7, 7, 7, 7, 7, 7, 7] [] rfl (sub_cons 0 rfl (sub_cons 0 rfl (sub_tail (sub_tail (sub_self)))))), H⟩
                · rw [if_neg h3082] at H
                  refine EL.keep [3, 9, 10, 16, 18, 20, 81, 82, 83, 84, 85, 86, 87, 90, 91, 92, 93, 94, 95, 96, 97, 98, 99, 101] [(3, .int .u8 a8), (9, .pointer (some ⟨g1573, 0, none⟩)), (10, .pointer (some ⟨g1585, 0, none⟩)), (16, .int .i64 x2721), (18, .slice A3021 t3016.length C3022), (20, .int .i64 t3018), (81, .slice A3023 t3017.length C3024), (82, .int .i64 (t3017.length : Int)), (83, .int .i64 t3002), (84, .int .i64 x2720), (85, .int .i64 (IntKind.i64.wrap (t3002 - x2720))), (86, .int .i64 (mx (IntKind.i64.wrap (t3002 - x2720)) 0)), (87, .bool (false)), (90, .int .i64 t3002), (91, .slice A3021 t3016.length C3022), (92, .int .i64 (t3016.length : Int)), (93, .slice A3023 t3017.length C3024), (94, .int .i64 (t3017.length : Int)), (95, .int .i64 (IntKind.i64.wrap ((t3016.length : Int) + (t3017.length : Int)))), (96, .pointer (some ⟨g1585, 0, none⟩)), (97, .int .i64 t3080), (98, .int .i64 (IntKind.i64.wrap ((IntKind.i64.wrap ((t3016.length : Int) + (t3017.length : Int))) + t3080))), (99, .bool (!(decide (t3002 = (IntKind.i64.wrap ((IntKind.i64.wrap ((t3016.length : Int) + (t3017.length : Int))) + t3080)))))), (101, .bool (!(decide (t3002 = (IntKind.i64.wrap ((IntKind.i64.wrap ((t3016.length : Int) + (t3017.length : Int))) + t3080))))))] (by kernel_rfl) ?_
                  refine EL.as' [(3, .int .u8 a8), (9, .pointer (some ⟨g1573, 0, none⟩)), (10, .pointer (some ⟨g1585, 0, none⟩)), (16, .int .i64 x2721), (18, .slice A3021 t3016.length C3022), (20, .int .i64 t3018), (81, .slice A3023 t3017.length C3024), (82, .int .i64 (t3017.length : Int)), (83, .int .i64 t3002), (84, .int .i64 x2720), (85, .int .i64 (IntKind.i64.wrap (t3002 - x2720))), (86, .int .i64 (mx (IntKind.i64.wrap (t3002 - x2720)) 0)), (87, .bool (false)), (90, .int .i64 t3002), (91, .slice A3021 t3016.length C3022), (92, .int .i64 (t3016.length : Int)), (93, .slice A3023 t3017.length C3024), (94, .int .i64 (t3017.length : Int)), (95, .int .i64 (IntKind.i64.wrap ((t3016.length : Int) + (t3017.length : Int)))), (96, .pointer (some ⟨g1585, 0, none⟩)), (97, .int .i64 t3080), (98, .int .i64 (IntKind.i64.wrap ((IntKind.i64.wrap ((t3016.length : Int) + (t3017.length : Int))) + t3080))), (99, .bool (true)), (101, .bool (true))] (by simp only [dec_f h3082, Bool.not_true, Bool.not_false]) ?_
                  refine EL.quick 8 [3, 9, 10, 16, 20, 81, 82, 83, 84, 85, 86, 87, 90, 91, 92, 93, 94, 95, 96, 97, 98, 99, 109] [(3, .int .u8 a8), (9, .pointer (some ⟨g1573, 0, none⟩)), (10, .pointer (some ⟨g1585, 0, none⟩)), (16, .int .i64 x2721), (20, .int .i64 t3018), (81, .slice A3023 t3017.length C3024), (82, .int .i64 (t3017.length : Int)), (83, .int .i64 t3002), (84, .int .i64 x2720), (85, .int .i64 (IntKind.i64.wrap (t3002 - x2720))), (86, .int .i64 (mx (IntKind.i64.wrap (t3002 - x2720)) 0)), (87, .bool (false)), (90, .int .i64 t3002), (91, .slice A3021 t3016.length C3022), (92, .int .i64 (t3016.length : Int)), (93, .slice A3023 t3017.length C3024), (94, .int .i64 (t3017.length : Int)), (95, .int .i64 (IntKind.i64.wrap ((t3016.length : Int) + (t3017.length : Int)))), (96, .pointer (some ⟨g1585, 0, none⟩)), (97, .int .i64 t3080), (98, .int .i64 (IntKind.i64.wrap ((IntKind.i64.wrap ((t3016.length : Int) + (t3017.length : Int))) + t3080))), (99, .bool (true)), (109, .bool (true))] (by kernel_rfl) ?_
                  obtain ⟨y3086, hy3086, H⟩ := lt_out H
                  refine EL.keep [3, 9, 10, 16, 20, 81, 82, 83, 84, 85, 86, 87, 90, 91, 92, 93, 94, 95, 96, 97, 98, 99, 109] [(3, .int .u8 a8), (9, .pointer (some ⟨g1573, 0, none⟩)), (10, .pointer (some ⟨g1585, 0, none⟩)), (16, .int .i64 x2721), (20, .int .i64 t3018), (81, .slice A3023 t3017.length C3024), (82, .int .i64 (t3017.length : Int)), (83, .int .i64 t3002), (84, .int .i64 x2720), (85, .int .i64 (IntKind.i64.wrap (t3002 - x2720))), (86, .int .i64 (mx (IntKind.i64.wrap (t3002 - x2720)) 0)), (87, .bool (false)), (90, .int .i64 t3002), (91, .slice A3021 t3016.length C3022), (92, .int .i64 (t3016.length : Int)), (93, .slice A3023 t3017.length C3024), (94, .int .i64 (t3017.length : Int)), (95, .int .i64 (IntKind.i64.wrap ((t3016.length : Int) + (t3017.length : Int)))), (96, .pointer (some ⟨g1585, 0, none⟩)), (97, .int .i64 t3080), (98, .int .i64 (IntKind.i64.wrap ((IntKind.i64.wrap ((t3016.length : Int) + (t3017.length : Int))) + t3080))), (99, .bool (true)), (109, .bool (true))] (by kernel_rfl) ?_
                  refine EL.as' [(3, .int .u8 a8), (9, .pointer (some ⟨g1573, 0, none⟩)), (10, .pointer (some ⟨g1585, 0, none⟩)), (16, .int .i64 x2721), (20, .int .i64 t3018), (81, .slice A3023 t3017.length C3024), (82, .int .i64 (t3017.length : Int)), (83, .int .i64 t3002), (84, .int .i64 x2720), (85, .int .i64 (IntKind.i64.wrap (t3002 - x2720))), (86, .int .i64 (mx (IntKind.i64.wrap (t3002 - x2720)) 0)), (87, .bool (false)), (90, .int .i64 t3002), (91, .slice A3021 t3016.length C3022), (92, .int .i64 (t3016.length : Int)), (93, .slice A3023 t3017.length C3024), (94, .int .i64 (t3017.length : Int)), (95, .int .i64 (IntKind.i64.wrap ((t3016.length : Int) + (t3017.length : Int)))), (96, .pointer (some ⟨g1585, 0, none⟩)), (97, .int .i64 t3080), (98, .int .i64 y3086), (99, .bool (true)), (109, .bool (true))] (by subst hy3086; rfl) ?_
                  refine EL.done (by kernel_rfl) ?_
                  refine EQ.to ?_
                  refine EQ.keep [3, 9, 10, 16, 20, 109] [(3, .int .u8 a8), (9, .pointer (some ⟨g1573, 0, none⟩)), (10, .pointer (some ⟨g1585, 0, none⟩)), (16, .int .i64 x2721), (20, .int .i64 t3018), (109, .bool (true))] (by kernel_rfl) ?_
                  exact fun a ha => ⟨true, ha, (hS.re [7, 7, 7, 7, 7, 7, 7, 7] [] rfl (sub_cons 0 rfl (sub_cons 0 rfl (sub_tail (sub_tail (sub_self)))))), H⟩
              · rw [if_neg h3079] at H
                refine EL.keep [3, 9, 10, 16, 17, 18, 19, 20, 81, 82, 83, 84, 85, 86, 87, 89] [(3, .int .u8 a8), (9, .pointer (some ⟨g1573, 0, none⟩)), (10, .pointer (some ⟨g1585, 0, none⟩)), (16, .int .i64 x2721), (17, .int .i64 t3002), (18, .slice A3021 t3016.length C3022), (19, .slice A3023 t3017.length C3024), (20, .int .i64 t3018), (81, .slice A3023 t3017.length C3024), (82, .int .i64 (t3017.length : Int)), (83, .int .i64 t3002), (84, .int .i64 x2720), (85, .int .i64 (IntKind.i64.wrap (t3002 - x2720))), (86, .int .i64 (mx (IntKind.i64.wrap (t3002 - x2720)) 0)), (87, .bool (!(decide ((t3017.length : Int) = (mx (IntKind.i64.wrap (t3002 - x2720)) 0))))), (89, .bool (!(decide ((t3017.length : Int) = (mx (IntKind.i64.wrap (t3002 - x2720)) 0)))))] (by kernel_rfl) ?_
                refine EL.as' [(3, .int .u8 a8), (9, .pointer (some ⟨g1573, 0, none⟩)), (10, .pointer (some ⟨g1585, 0, none⟩)), (16, .int .i64 x2721), (17, .int .i64 t3002), (18, .slice A3021 t3016.length C3022), (19, .slice A3023 t3017.length C3024), (20, .int .i64 t3018), (81, .slice A3023 t3017.length C3024), (82, .int .i64 (t3017.length : Int)), (83, .int .i64 t3002), (84, .int .i64 x2720), (85, .int .i64 (IntKind.i64.wrap (t3002 - x2720))), (86, .int .i64 (mx (IntKind.i64.wrap (t3002 - x2720)) 0)), (87, .bool (true)), (89, .bool (true))] (by simp only [dec_f h3079, Bool.not_true, Bool.not_false]) ?_
                refine EL.quick 20 [3, 9, 10, 16, 20, 81, 82, 83, 84, 85, 86, 87, 109] [(3, .int .u8 a8), (9, .pointer (some ⟨g1573, 0, none⟩)), (10, .pointer (some ⟨g1585, 0, none⟩)), (16, .int .i64 x2721), (20, .int .i64 t3018), (81, .slice A3023 t3017.length C3024), (82, .int .i64 (t3017.length : Int)), (83, .int .i64 t3002), (84, .int .i64 x2720), (85, .int .i64 (IntKind.i64.wrap (t3002 - x2720))), (86, .int .i64 (mx (IntKind.i64.wrap (t3002 - x2720)) 0)), (87, .bool (true)), (109, .bool (true))] (by kernel_rfl) ?_
                refine EL.done (by kernel_rfl) ?_
                refine EQ.to ?_
                refine EQ.keep [3, 9, 10, 16, 20, 109] [(3, .int .u8 a8), (9, .pointer (some ⟨g1573, 0, none⟩)), (10, .pointer (some ⟨g1585, 0, none⟩)), (16, .int .i64 x2721), (20, .int .i64 t3018), (109, .bool (true))] (by kernel_rfl) ?_
                exact fun a ha => ⟨true, ha, (hS.re [7, 7, 6, 6, 6, 6, 7, 7] [] rfl (sub_cons 0 rfl (sub_cons 0 rfl (sub_tail (sub_tail (sub_self)))))), H⟩
            · rw [if_neg h3078] at H
              refine EL.keep [3, 9, 10, 15, 16, 17, 18, 19, 20, 80] [(3, .int .u8 a8), (9, .pointer (some ⟨g1573, 0, none⟩)), (10, .pointer (some ⟨g1585, 0, none⟩)), (15, .int .i64 x2720), (16, .int .i64 x2721), (17, .int .i64 t3002), (18, .slice A3021 t3016.length C3022), (19, .slice A3023 t3017.length C3024), (20, .int .i64 t3018), (80, .bool (!(decide (t3018 = (IntKind.i64.wrap (x2720 - (mn t3002 x2720)))))))] (by kernel_rfl) ?_
              refine EL.as' [(3, .int .u8 a8), (9, .pointer (some ⟨g1573, 0, none⟩)), (10, .pointer (some ⟨g1585, 0, none⟩)), (15, .int .i64 x2720), (16, .int .i64 x2721), (17, .int .i64 t3002), (18, .slice A3021 t3016.length C3022), (19, .slice A3023 t3017.length C3024), (20, .int .i64 t3018), (80, .bool (true))] (by simp only [dec_f h3078, Bool.not_true, Bool.not_false]) ?_
              refine EL.quick 29 [3, 9, 10, 16, 20, 109] [(3, .int .u8 a8), (9, .pointer (some ⟨g1573, 0, none⟩)), (10, .pointer (some ⟨g1585, 0, none⟩)), (16, .int .i64 x2721), (20, .int .i64 t3018), (109, .bool (true))] (by kernel_rfl) ?_
              refine EL.done (by kernel_rfl) ?_
              refine EQ.to ?_
              refine EQ.keep [3, 9, 10, 16, 20, 109] [(3, .int .u8 a8), (9, .pointer (some ⟨g1573, 0, none⟩)), (10, .pointer (some ⟨g1585, 0, none⟩)), (16, .int .i64 x2721), (20, .int .i64 t3018), (109, .bool (true))] (by kernel_rfl) ?_
              exact fun a ha => ⟨true, ha, (hS.re [7, 7, 6, 6, 6, 6, 7, 7] [] rfl (sub_cons 0 rfl (sub_cons 0 rfl (sub_tail (sub_tail (sub_self)))))), H⟩
          · obtain ⟨x3076, ha, hS, H⟩ := hI
            rw [hj3077] at H
            (try dsimp only at H)
            refine EW.at ?_ a ha
            clear ha a
            refine EW.condP' (o := (.tmp 109)) (x := Cd4.r.r.r.r.r.r.r.l.r.l.l.r.l.l.r.r.l.r.l) (y := Cd4.r.r.r.r.r.r.r.l.r.l.l.r.l.l.r.r.l.r.r) (x3076) (by kernel_rfl) (by kernel_rfl) (fun h3087 => ?_) (fun h3087 => ?_)
            · rw [if_pos h3087] at H
              refine EW.seq (x := Cd4.r.r.r.r.r.r.r.l.r.l.l.r.l.l.r.r.l.r.l.l) (y := Cd4.r.r.r.r.r.r.r.l.r.l.l.r.l.l.r.r.l.r.l.r) (by kernel_rfl) ?_
              refine EW.region (id := 20) (ops := Cd4.r.r.r.r.r.r.r.l.r.l.l.r.l.l.r.r.l.r.l.l.ops) (by kernel_rfl) ?_
              refine EL.quick 1 [8] [(8, .bool (false))] (by kernel_rfl) ?_
              refine EL.done (by kernel_rfl) ?_
              refine EQ.code ?_
              refine EW.ret (by kernel_rfl) ?_
              refine EQ.ret ?_
              refine EQ.ret ?_
              refine EQ.ret ?_
              refine EQ.ret ?_
              refine EQ.ret ?_
              refine EQ.ret ?_
              obtain rfl := Option.some.inj H
              exact EQ.leave (.bool (false)) (by kernel_rfl) ⟨_, rfl, rfl, (hS.re [] [0, 0, 0, 0, 0, 0, 0, 0] rfl (sub_tail (sub_tail (sub_self))))⟩
            · rw [if_neg h3087] at H
              refine EW.skip (by kernel_rfl) ?_
              refine EQ.code ?_
              refine EW.region (id := 21) (ops := Cd4.r.r.r.r.r.r.r.l.r.l.l.r.l.l.r.r.r.ops) (by kernel_rfl) ?_
              refine EL.quick 2 [3, 9, 10, 15, 16] [(3, .int .u8 a8), (9, .pointer (some ⟨g1573, 0, none⟩)), (10, .pointer (some ⟨g1585, 0, none⟩)), (15, .int .i64 t3018), (16, .int .i64 x2721)] (by kernel_rfl) ?_
              refine EL.done (by kernel_rfl) ?_
              refine EQ.pop ?_
              refine EQ.code ?_
              refine EW.region (id := 16) (ops := Cd4.r.r.r.r.r.r.r.l.r.l.l.r.r.ops) (by kernel_rfl) ?_
              refine EL.quick 3 [3, 9, 10, 15, 16] [(3, .int .u8 a8), (9, .pointer (some ⟨g1573, 0, none⟩)), (10, .pointer (some ⟨g1585, 0, none⟩)), (15, .int .i64 t3018), (16, .int .i64 (IntKind.i64.wrap (x2721 + 1)))] (by kernel_rfl) ?_
              refine EL.done (by kernel_rfl) ?_
              refine EQ.to ?_
              refine EQ.keep [3, 9, 10, 15, 16] [(3, .int .u8 a8), (9, .pointer (some ⟨g1573, 0, none⟩)), (10, .pointer (some ⟨g1585, 0, none⟩)), (15, .int .i64 t3018), (16, .int .i64 (IntKind.i64.wrap (x2721 + 1)))] (by kernel_rfl) ?_
              exact fun a ha => ⟨n, Nat.lt_succ_self n, t3015, t3018, IntKind.i64.wrap (x2721 + 1), A3019, C3020, ha, (hS.re [1, 5, 5, 5, 4] [5, 5, 5] rfl (sub_cons 0 rfl (sub_cons 0 rfl (sub_tail (sub_tail (sub_self)))))), H⟩
        · rw [if_neg h2911] at H
          refine EW.exit (id := 2) (by kernel_rfl) ?_
          refine EQ.exitCode ?_
          refine EQ.exitTo ?_
          refine EQ.exitHere ?_
          refine EQ.code ?_
          refine EW.seq (x := Cd4.r.r.r.r.r.r.r.r.l) (y := Cd4.r.r.r.r.r.r.r.r.r) (by kernel_rfl) ?_
          refine EW.region (id := 22) (ops := Cd4.r.r.r.r.r.r.r.r.l.ops) (by kernel_rfl) ?_
          refine EL.quick 1 [8] [(8, .bool (true))] (by kernel_rfl) ?_
          refine EL.done (by kernel_rfl) ?_
          refine EQ.code ?_
          refine EW.ret (by kernel_rfl) ?_
          obtain rfl := Option.some.inj H
          exact EQ.leave (.bool (true)) (by kernel_rfl) ⟨_, rfl, rfl, (hS.re [] [0, 0, 0, 0, 0] rfl (sub_tail (sub_tail (sub_self))))⟩
  · rw [if_neg h1558] at H
    refine EW.seq (x := Cd4.r.l.r.l.l) (y := Cd4.r.l.r.l.r) (by kernel_rfl) ?_
    refine EW.region (id := 2) (ops := Cd4.r.l.r.l.l.ops) (by kernel_rfl) ?_
    refine EL.quick 1 [8] [(8, .bool (false))] (by kernel_rfl) ?_
    refine EL.done (by kernel_rfl) ?_
    refine EQ.code ?_
    refine EW.ret (by kernel_rfl) ?_
    refine EQ.ret ?_
    obtain rfl := Option.some.inj H
    exact EQ.leave (.bool (false)) (by kernel_rfl) ⟨_, rfl, rfl, (hS.re [] [] rfl (sub_self))⟩

def confidantlaw20_ParkFuel.Pure : Prop := ∀ (a5 : Int) (a6 : Int) (a7 : Int) (a8 : Int), (Lit.int .u8 a5).wf = true → (Lit.int .u16 a6).wf = true → (Lit.int .u8 a7).wf = true → (Lit.int .u8 a8).wf = true → ∃ K, confidantlaw20_ParkFuel.f K a5 a6 a7 a8 = some true

end Go.Proofs.Ytipaaapbapijhaa.G
