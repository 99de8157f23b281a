import Derived.Test.YtipaaapbapijhaaProg
import Derived.Test.YtipaaapbapijhaaFwEq
import Derived.Test.YtipaaapbapijhaaFwOpen
import Derived.Test.YtipaaapbapijhaaG0
import Derived.Test.YtipaaapbapijhaaG1
import Derived.Test.YtipaaapbapijhaaG2
import Derived.Test.YtipaaapbapijhaaG3
import Derived.Test.YtipaaapbapijhaaG8
import Derived.Test.YtipaaapbapijhaaG11
namespace Go.Proofs.Ytipaaapbapijhaa.G
open Go Go.Fw Go.RowKit Go.Proofs
set_option linter.unusedVariables false
set_option linter.unusedSimpArgs false

/-! ### confidant/confidantlaw20.ParkStays: function 6 -/
def confidantlaw20_ParkStays.l2 (K : Nat) (t3083 : List S60) (y3046 : Int) : Nat → Int → Option Bool
  | 0, _ => none
  | n + 1, x3157 => if x3157 < (t3083.length : Int) then (lt (fun (x3206 : Int) => (if 0 ≤ x3157 then (if (IntKind.i64.wrap ((t3083.getD x3157.toNat zS60).f0.f0)) = x3206 then (confidantlaw20_ParkStays.l2 K t3083 y3046 n (IntKind.i64.wrap (x3157 + 1))) else (some false)) else none)) fun j3207 => (if x3157 ≥ y3046 then (j3207 (IntKind.i64.wrap (x3157 + 1))) else (j3207 x3157))) else (some true)
def confidantlaw20_ParkStays.l1 (K : Nat) (a5 : Int) (x1959 : List (List S96)) (t1635 : List Int) (a4 : Int) (j2734 : (List S60) → Option Bool) : Nat → (List S60) → Int → Option Bool
  | 0, _, _ => none
  | n + 1, x2839, x2842 => if x2842 < (IntKind.i64.wrap (Int.tmod a5 5)) then (b4 (park_Park_Look.f K x2839 x1959 t1635 100) fun (t3007 : List S60) (t3008 : List S36) (t3009 : List S36) (t3010 : Int) => (lt (fun (x3033 : Bool) => (if x3033 = true then (some false) else (confidantlaw20_ParkStays.l1 K a5 x1959 t1635 a4 j2734 n t3007 (IntKind.i64.wrap (x2842 + 1))))) fun j3034 => (if (t3008.length : Int) = 0 then (if (t3009.length : Int) = 0 then (if t3010 = (IntKind.i64.wrap (100 - (IntKind.i64.wrap ((IntKind.i64.wrap (Int.tmod a4 10)) + 1)))) then (b1 (park_Park_Len.f K t3007) fun (t3038 : Int) => (lt (IntKind.i64.wrap (100 - (IntKind.i64.wrap ((IntKind.i64.wrap (Int.tmod a4 10)) + 1)))) fun y3040 => (j3034 (!(decide (t3038 = (IntKind.i64.wrap ((IntKind.i64.wrap (Int.tmod a4 10)) + 1)))))))) else (lt (IntKind.i64.wrap (100 - (IntKind.i64.wrap ((IntKind.i64.wrap (Int.tmod a4 10)) + 1)))) fun y3041 => (j3034 true))) else (j3034 true)) else (j3034 true)))) else (j2734 x2839)
def confidantlaw20_ParkStays.l0 (K : Nat) (a4 : Int) (t1635 : List Int) (j1962 : (List S60) → (List (List S96)) → Option Bool) : Nat → (List S60) → (List (List S96)) → Int → Option Bool
  | 0, _, _, _ => none
  | n + 1, x2015, x2018, x2021 => if x2021 < (IntKind.i64.wrap ((IntKind.i64.wrap (Int.tmod a4 10)) + 1)) then (b3 (future_Futures_Make.f K x2018 t1635 0 0) fun (t2100 : List (List S96)) (t2101 : Int) (t2102 : Bool) => (if t2102 = true then (b1 (park_Park_Add.f K x2015 (IntKind.i32.wrap x2021) 0 0 ([] : List Int) 0 0 0 0 0 0 0 0 t2101) fun (t2108 : List S60) => (confidantlaw20_ParkStays.l0 K a4 t1635 j1962 n t2108 t2100 (IntKind.i64.wrap (x2021 + 1)))) else (some false))) else (j1962 x2015 x2018)
def confidantlaw20_ParkStays.f (K : Nat) (a4 : Int) (a5 : Int) (a6 : Int) : Option Bool := b1 (confidantlaw20_known.f K) fun (t1619 : Bool) => (if t1619 = true then (lt ([20] : List Int) fun l1633 => (b2 (future_New.f K l1633) fun (t1634 : List (List S96)) (t1635 : List Int) => (b1 (park_New.f K) fun (t1647 : List S60) => (lt (fun (x1956 : List S60) (x1959 : List (List S96)) => (lt (fun (x2731 : List S60) => (if (IntKind.i64.wrap ((IntKind.i64.wrap (Int.tmod a4 10)) + 1)) = 0 then none else (lt (Int.tmod (IntKind.i64.wrap a6) (IntKind.i64.wrap ((IntKind.i64.wrap (Int.tmod a4 10)) + 1))) fun y3046 => (b2 (future_Futures_Break.f K x1959 t1635 (IntKind.i32.wrap y3046) 5) fun (t3052 : List (List S96)) (t3053 : Bool) => (b4 (park_Park_Look.f K x2731 t3052 t1635 100) fun (t3068 : List S60) (t3069 : List S36) (t3070 : List S36) (t3071 : Int) => (b1 (park_Park_All.f K t3068) fun (t3083 : List S60) => (lt (fun (x3122 : Bool) => (if x3122 = true then (some false) else (confidantlaw20_ParkStays.l2 K t3083 y3046 K 0))) fun j3123 => (if (t3069.length : Int) = 1 then (if (0 : Int) < (t3069.length : Int) then (if (IntKind.i64.wrap ((t3069.getD (0 : Int).toNat zS36).f0)) = y3046 then (if (t3070.length : Int) = 0 then (j3123 (!(decide ((t3083.length : Int) = (IntKind.i64.wrap ((IntKind.i64.wrap ((IntKind.i64.wrap (Int.tmod a4 10)) + 1)) - 1)))))) else (j3123 true)) else (j3123 true)) else none) else (j3123 true))))))))) fun j2734 => (confidantlaw20_ParkStays.l1 K a5 x1959 t1635 a4 j2734 K x1956 0))) fun j1962 => (confidantlaw20_ParkStays.l0 K a4 t1635 j1962 K t1647 t1634 0))))) else (some false))
set_option maxRecDepth 100000 in
theorem confidantlaw20_ParkStays.calls {K : Nat} {a4 : Int} {a5 : Int} {a6 : Int} {x1611 : Bool} {B w : World} {os : List Ass} {rs : List Ro} (H : confidantlaw20_ParkStays.f K a4 a5 a6 = some x1611) (hS : St B w (os) (rs)) :
    Calls Try.prog 6 [.int .u8 a4, .int .u8 a5, .int .u8 a6].toArray w (fun en w' => ∃ v, en = .returned v ∧ v = .bool (x1611) ∧ St B w' (os) (rs)) := by
  unfold confidantlaw20_ParkStays.f at H
  refine calls_of_EW (args := [.int .u8 a4, .int .u8 a5, .int .u8 a6]) (c := Cd6) 147 Try.func6 (by kernel_rfl) (by kernel_rfl) (by kernel_rfl) ?_
  refine EW.seq (x := Cd6.l) (y := Cd6.r) (by kernel_rfl) ?_
  refine EW.region (id := 0) (ops := Cd6.l.ops) (by kernel_rfl) ?_
  refine EL.quick 1 [0, 1, 2] [(0, .int .u8 a4), (1, .int .u8 a5), (2, .int .u8 a6)] (by kernel_rfl) ?_
  refine EL.done (by kernel_rfl) ?_
  refine EQ.code ?_
  refine EW.seq (x := Cd6.r.l) (y := Cd6.r.r) (by kernel_rfl) ?_
  refine EW.seq (x := Cd6.r.l.l) (y := Cd6.r.l.r) (by kernel_rfl) ?_
  refine EW.region (id := 1) (ops := Cd6.r.l.l.ops) (by kernel_rfl) ?_
  obtain ⟨t1619, hc1620, H⟩ := b1_out H
  refine EL.of (EO.callD 10 [] _ 24 (by kernel_rfl) (by kernel_rfl) (by kernel_rfl) (confidantlaw20_known.calls hc1620 hS) ?_)
  rintro v w ⟨rfl, hS⟩
  refine EL.quick 1 [0, 1, 2, 25] [(0, .int .u8 a4), (1, .int .u8 a5), (2, .int .u8 a6), (25, .bool (!(t1619)))] (by kernel_rfl) ?_
  refine EL.done (by kernel_rfl) ?_
  refine EQ.code ?_
  refine EW.condQ (b := !(t1619)) (o := (.tmp 25)) (x := Cd6.r.l.r.l) (y := Cd6.r.l.r.r) (t1619 = true) (false) (by kernel_rfl) (by kernel_rfl) ⟨fun h => (by rw [h] <;> rfl), fun h => (by rw [Bool.eq_false_iff.2 h] <;> rfl)⟩ (fun h1621 => ?_) (fun h1621 => ?_)
  · rw [if_pos h1621] at H
    refine EW.skip (by kernel_rfl) ?_
    refine EQ.code ?_
    refine EW.seq (x := Cd6.r.r.l) (y := Cd6.r.r.r) (by kernel_rfl) ?_
    refine EW.region (id := 3) (ops := Cd6.r.r.l.ops) (by kernel_rfl) ?_
    obtain ⟨l1633, hl1633, H⟩ := lt_out H
    refine EL.of (EO.lit hS (Kd.int .i64) 3 66 1 #[(0, .int .i64 20)] [.int .i64 20] l1633 26 (by kernel_rfl) (by kernel_rfl) (by kernel_rfl) (fun _ => (by kernel_rfl)) (by rw [hl1633]; rfl) (by kernel_rfl) (fun w G hr => (by rw [hl1633]; exact ⟨[.int .i64 20], [], rfl, rfl, rfl⟩)) ?_)
    intro g1632 w hS
    have hS := St.fr hS 0 rfl
    have hS : St B _ (os) (Ro.sl (Kd.int .i64) (some ⟨g1632, 0, none⟩) 1 l1633 :: Ro.sl (Kd.int .i64) (some ⟨g1632, 0, none⟩) 1 l1633 :: rs) := hS.re [] [] rfl (sub_cons 0 rfl sub_self)
    obtain ⟨t1634, t1635, hc1641, H⟩ := b2_out H
    refine EL.of (EO.callD 11 [.slice (some ⟨g1632, 0, none⟩) l1633.length 1] _ 27 (by kernel_rfl) (by kernel_rfl) (by kernel_rfl) (future_New.calls hc1641 hS) ?_)
    rintro v w ⟨g1636, A1637, C1638, A1639, C1640, rfl, hS⟩
    refine EL.quick 1 [0, 1, 2, 7] [(0, .int .u8 a4), (1, .int .u8 a5), (2, .int .u8 a6), (7, .pointer (some ⟨g1636, 0, none⟩))] (by kernel_rfl) ?_
    refine EL.done (by kernel_rfl) ?_
    refine EQ.code ?_
    refine EW.seq (x := Cd6.r.r.r.l) (y := Cd6.r.r.r.r) (by kernel_rfl) ?_
    refine EW.region (id := 4) (ops := Cd6.r.r.r.l.ops) (by kernel_rfl) ?_
    obtain ⟨t1647, hc1651, H⟩ := b1_out H
    refine EL.of (EO.callD 12 [] _ 28 (by kernel_rfl) (by kernel_rfl) (by kernel_rfl) (park_New.calls hc1651 hS) ?_)
    rintro v w ⟨g1648, A1649, C1650, rfl, hS⟩
    refine EL.quick 1 [0, 1, 2, 7, 8] [(0, .int .u8 a4), (1, .int .u8 a5), (2, .int .u8 a6), (7, .pointer (some ⟨g1636, 0, none⟩)), (8, .pointer (some ⟨g1648, 0, none⟩))] (by kernel_rfl) ?_
    refine EL.done (by kernel_rfl) ?_
    refine EQ.code ?_
    refine EW.seq (x := Cd6.r.r.r.r.l) (y := Cd6.r.r.r.r.r) (by kernel_rfl) ?_
    refine EW.region (id := 5) (ops := Cd6.r.r.r.r.l.ops) (by kernel_rfl) ?_
    refine EL.quick 5 [1, 2, 7, 8, 9] [(1, .int .u8 a5), (2, .int .u8 a6), (7, .pointer (some ⟨g1636, 0, none⟩)), (8, .pointer (some ⟨g1648, 0, none⟩)), (9, .int .i64 (IntKind.i64.wrap ((IntKind.i64.wrap (Int.tmod a4 10)) + 1)))] (by kernel_rfl) ?_
    refine EL.done (by kernel_rfl) ?_
    refine EQ.code ?_
    obtain ⟨j1962, hj1962, H⟩ := lt_out H
    refine EW.cut (x := Cd6.r.r.r.r.r.l) (y := Cd6.r.r.r.r.r.r) (fun a w => ∃ x1956 : List S60, ∃ x1959 : List (List S96), ∃ A1957 : Option Addr, ∃ C1958 : Nat, ∃ A1960 : Option Addr, ∃ C1961 : Nat, Sat 147 [(1, .int .u8 a5), (2, .int .u8 a6), (7, .pointer (some ⟨g1636, 0, none⟩)), (8, .pointer (some ⟨g1648, 0, none⟩)), (9, .int .i64 (IntKind.i64.wrap ((IntKind.i64.wrap (Int.tmod a4 10)) + 1)))] a ∧ St B w (Ass.box 93 g1648 [.slice A1957 x1956.length C1958] :: Ass.own 60 kS60 A1957 C1958 x1956 :: Ass.box 91 g1636 [.slice A1960 x1959.length C1961, .slice A1639 t1635.length C1640] :: Ass.deep 94 96 kS96 A1960 C1961 x1959 :: Ass.own 3 (Kd.int .i64) A1639 C1640 t1635 :: os) (Ro.sl (Kd.int .i64) (some ⟨g1632, 0, none⟩) 1 l1633 :: Ro.sl (Kd.int .i64) (some ⟨g1632, 0, none⟩) 1 l1633 :: rs) ∧ j1962 x1956 x1959 = some x1611) (by kernel_rfl) ?_ (fun a w hI => ?_)
    · refine EW.seq (x := Cd6.r.r.r.r.r.l.l) (y := Cd6.r.r.r.r.r.l.r) (by kernel_rfl) ?_
      refine EW.region (id := 6) (ops := Cd6.r.r.r.r.r.l.l.ops) (by kernel_rfl) ?_
      refine EL.quick 1 [1, 2, 7, 8, 9, 10] [(1, .int .u8 a5), (2, .int .u8 a6), (7, .pointer (some ⟨g1636, 0, none⟩)), (8, .pointer (some ⟨g1648, 0, none⟩)), (9, .int .i64 (IntKind.i64.wrap ((IntKind.i64.wrap (Int.tmod a4 10)) + 1))), (10, .int .i64 0)] (by kernel_rfl) ?_
      refine EL.done (by kernel_rfl) ?_
      refine EQ.code ?_
      refine EW.block (x := Cd6.r.r.r.r.r.l.r.l) (id := 0) (by kernel_rfl) ?_
      refine EW.loop (x := Cd6.r.r.r.r.r.l.r.l.l) (fun n a w => ∃ x2015 : List S60, ∃ x2018 : List (List S96), ∃ x2021 : Int, ∃ A2016 : Option Addr, ∃ C2017 : Nat, ∃ A2019 : Option Addr, ∃ C2020 : Nat, Sat 147 [(1, .int .u8 a5), (2, .int .u8 a6), (7, .pointer (some ⟨g1636, 0, none⟩)), (8, .pointer (some ⟨g1648, 0, none⟩)), (9, .int .i64 (IntKind.i64.wrap ((IntKind.i64.wrap (Int.tmod a4 10)) + 1))), (10, .int .i64 x2021)] a ∧ St B w (Ass.box 93 g1648 [.slice A2016 x2015.length C2017] :: Ass.own 60 kS60 A2016 C2017 x2015 :: Ass.box 91 g1636 [.slice A2019 x2018.length C2020, .slice A1639 t1635.length C1640] :: Ass.deep 94 96 kS96 A2019 C2020 x2018 :: Ass.own 3 (Kd.int .i64) A1639 C1640 t1635 :: os) (Ro.sl (Kd.int .i64) (some ⟨g1632, 0, none⟩) 1 l1633 :: Ro.sl (Kd.int .i64) (some ⟨g1632, 0, none⟩) 1 l1633 :: rs) ∧ confidantlaw20_ParkStays.l0 K a4 t1635 j1962 n x2015 x2018 x2021 = some x1611) K (by kernel_rfl) ?_ (fun n a w hI => ?_)
      · refine EQ.keep [1, 2, 7, 8, 9, 10] [(1, .int .u8 a5), (2, .int .u8 a6), (7, .pointer (some ⟨g1636, 0, none⟩)), (8, .pointer (some ⟨g1648, 0, none⟩)), (9, .int .i64 (IntKind.i64.wrap ((IntKind.i64.wrap (Int.tmod a4 10)) + 1))), (10, .int .i64 0)] (by kernel_rfl) ?_
        exact fun a ha => ⟨t1647, t1634, 0, A1649, C1650, A1637, C1638, ha, (hS.re [4, 4, 4, 4, 4] [] rfl (sub_cons 0 rfl (sub_cons 0 rfl (sub_tail (sub_tail (sub_self)))))), H⟩
      · obtain ⟨x2015, x2018, x2021, A2016, C2017, A2019, C2020, ha, hS, H⟩ := hI
        obtain _ | n := n
        · simp [confidantlaw20_ParkStays.l0] at H
        rw [confidantlaw20_ParkStays.l0.eq_2] at H
        refine EW.at ?_ a ha
        clear ha a
        refine EW.seq (x := Cd6.r.r.r.r.r.l.r.l.l.l) (y := Cd6.r.r.r.r.r.l.r.l.l.r) (by kernel_rfl) ?_
        refine EW.seq (x := Cd6.r.r.r.r.r.l.r.l.l.l.l) (y := Cd6.r.r.r.r.r.l.r.l.l.l.r) (by kernel_rfl) ?_
        refine EW.region (id := 7) (ops := Cd6.r.r.r.r.r.l.r.l.l.l.l.ops) (by kernel_rfl) ?_
        refine EL.quick 3 [1, 2, 7, 8, 9, 10, 35] [(1, .int .u8 a5), (2, .int .u8 a6), (7, .pointer (some ⟨g1636, 0, none⟩)), (8, .pointer (some ⟨g1648, 0, none⟩)), (9, .int .i64 (IntKind.i64.wrap ((IntKind.i64.wrap (Int.tmod a4 10)) + 1))), (10, .int .i64 x2021), (35, .bool (decide (x2021 < (IntKind.i64.wrap ((IntKind.i64.wrap (Int.tmod a4 10)) + 1)))))] (by kernel_rfl) ?_
        refine EL.done (by kernel_rfl) ?_
        refine EQ.code ?_
        refine EW.condP (o := (.tmp 35)) (x := Cd6.r.r.r.r.r.l.r.l.l.l.r.l) (y := Cd6.r.r.r.r.r.l.r.l.l.l.r.r) (x2021 < (IntKind.i64.wrap ((IntKind.i64.wrap (Int.tmod a4 10)) + 1))) (by kernel_rfl) (by kernel_rfl) (fun h2075 => ?_) (fun h2075 => ?_)
        · rw [if_pos h2075] at H
          refine EW.skip (by kernel_rfl) ?_
          refine EQ.code ?_
          refine EW.seq (x := Cd6.r.r.r.r.r.l.r.l.l.r.l) (y := Cd6.r.r.r.r.r.l.r.l.l.r.r) (by kernel_rfl) ?_
          refine EW.block (x := Cd6.r.r.r.r.r.l.r.l.l.r.l.l) (id := 1) (by kernel_rfl) ?_
          refine EW.seq (x := Cd6.r.r.r.r.r.l.r.l.l.r.l.l.l) (y := Cd6.r.r.r.r.r.l.r.l.l.r.l.l.r) (by kernel_rfl) ?_
          refine EW.region (id := 9) (ops := Cd6.r.r.r.r.r.l.r.l.l.r.l.l.l.ops) (by kernel_rfl) ?_
          refine EL.quick 1 [1, 2, 7, 8, 9, 10, 39] [(1, .int .u8 a5), (2, .int .u8 a6), (7, .pointer (some ⟨g1636, 0, none⟩)), (8, .pointer (some ⟨g1648, 0, none⟩)), (9, .int .i64 (IntKind.i64.wrap ((IntKind.i64.wrap (Int.tmod a4 10)) + 1))), (10, .int .i64 x2021), (39, .pointer (some ⟨g1636, 0, none⟩))] (by kernel_rfl) ?_
          have hS : St B _ (Ass.box 91 g1636 [.slice A2019 x2018.length C2020, .slice A1639 t1635.length C1640] :: Ass.deep 94 96 kS96 A2019 C2020 x2018 :: Ass.own 3 (Kd.int .i64) A1639 C1640 t1635 :: Ass.box 93 g1648 [.slice A2016 x2015.length C2017] :: Ass.own 60 kS60 A2016 C2017 x2015 :: os) (Ro.sl (Kd.int .i64) (some ⟨g1632, 0, none⟩) 1 l1633 :: Ro.sl (Kd.int .i64) (some ⟨g1632, 0, none⟩) 1 l1633 :: rs) := hS.re [4, 4, 4] [] rfl sub_self
          obtain ⟨t2100, t2101, t2102, hc2105, H⟩ := b3_out H
          refine EL.of (EO.callD 13 [.pointer (some ⟨g1636, 0, none⟩), .int .i64 0, .int .i64 0] _ 40 (by kernel_rfl) (by kernel_rfl) (by kernel_rfl) (future_Futures_Make.calls hc2105 hS) ?_)
          rintro v w ⟨A2103, C2104, rfl, hS⟩
          refine EL.quick 5 [1, 2, 7, 8, 9, 10, 11, 12] [(1, .int .u8 a5), (2, .int .u8 a6), (7, .pointer (some ⟨g1636, 0, none⟩)), (8, .pointer (some ⟨g1648, 0, none⟩)), (9, .int .i64 (IntKind.i64.wrap ((IntKind.i64.wrap (Int.tmod a4 10)) + 1))), (10, .int .i64 x2021), (11, .int .i32 t2101), (12, .bool (t2102))] (by kernel_rfl) ?_
          refine EL.done (by kernel_rfl) ?_
          refine EQ.code ?_
          refine EW.seq (x := Cd6.r.r.r.r.r.l.r.l.l.r.l.l.r.l) (y := Cd6.r.r.r.r.r.l.r.l.l.r.l.l.r.r) (by kernel_rfl) ?_
          refine EW.seq (x := Cd6.r.r.r.r.r.l.r.l.l.r.l.l.r.l.l) (y := Cd6.r.r.r.r.r.l.r.l.l.r.l.l.r.l.r) (by kernel_rfl) ?_
          refine EW.region (id := 10) (ops := Cd6.r.r.r.r.r.l.r.l.l.r.l.l.r.l.l.ops) (by kernel_rfl) ?_
          refine EL.quick 2 [1, 2, 7, 8, 9, 10, 11, 44] [(1, .int .u8 a5), (2, .int .u8 a6), (7, .pointer (some ⟨g1636, 0, none⟩)), (8, .pointer (some ⟨g1648, 0, none⟩)), (9, .int .i64 (IntKind.i64.wrap ((IntKind.i64.wrap (Int.tmod a4 10)) + 1))), (10, .int .i64 x2021), (11, .int .i32 t2101), (44, .bool (!(t2102)))] (by kernel_rfl) ?_
          refine EL.done (by kernel_rfl) ?_
          refine EQ.code ?_
          refine EW.condQ (b := !(t2102)) (o := (.tmp 44)) (x := Cd6.r.r.r.r.r.l.r.l.l.r.l.l.r.l.r.l) (y := Cd6.r.r.r.r.r.l.r.l.l.r.l.l.r.l.r.r) (t2102 = true) (false) (by kernel_rfl) (by kernel_rfl) ⟨fun h => (by rw [h] <;> rfl), fun h => (by rw [Bool.eq_false_iff.2 h] <;> rfl)⟩ (fun h2107 => ?_) (fun h2107 => ?_)
          · rw [if_pos h2107] at H
            refine EW.skip (by kernel_rfl) ?_
            refine EQ.code ?_
            refine EW.region (id := 12) (ops := Cd6.r.r.r.r.r.l.r.l.l.r.l.l.r.r.ops) (by kernel_rfl) ?_
            refine EL.quick 5 [1, 2, 7, 8, 9, 10, 45, 48, 49] [(1, .int .u8 a5), (2, .int .u8 a6), (7, .pointer (some ⟨g1636, 0, none⟩)), (8, .pointer (some ⟨g1648, 0, none⟩)), (9, .int .i64 (IntKind.i64.wrap ((IntKind.i64.wrap (Int.tmod a4 10)) + 1))), (10, .int .i64 x2021), (45, .pointer (some ⟨g1648, 0, none⟩)), (48, .agg #[.int .i32 (IntKind.i32.wrap x2021), .int .i64 0, .int .i64 0, .slice none ([] : List Int).length 0, .int .i32 0, .int .i32 0, .int .i32 0, .int .i32 0, .int .i64 0, .int .i64 0, .int .u32 0, .int .i64 0]), (49, .int .i32 t2101)] (by kernel_rfl) ?_
            have hS := St.nilR hS (Kd.int .i32)
            have hS : St B _ (Ass.box 93 g1648 [.slice A2016 x2015.length C2017] :: Ass.own 60 kS60 A2016 C2017 x2015 :: Ass.box 91 g1636 [.slice A2103 t2100.length C2104, .slice A1639 t1635.length C1640] :: Ass.deep 94 96 kS96 A2103 C2104 t2100 :: Ass.own 3 (Kd.int .i64) A1639 C1640 t1635 :: os) (Ro.sl (Kd.int .i32) none 0 ([] : List Int) :: Ro.sl (Kd.int .i32) none 0 ([] : List Int) :: Ro.sl (Kd.int .i64) (some ⟨g1632, 0, none⟩) 1 l1633 :: Ro.sl (Kd.int .i64) (some ⟨g1632, 0, none⟩) 1 l1633 :: rs) := hS.re [4, 4] [] rfl (sub_cons 0 rfl sub_self)
            obtain ⟨t2108, hc2111, H⟩ := b1_out H
            refine EL.of (EO.callD 15 [.pointer (some ⟨g1648, 0, none⟩), .agg #[.int .i32 (IntKind.i32.wrap x2021), .int .i64 0, .int .i64 0, .slice none ([] : List Int).length 0, .int .i32 0, .int .i32 0, .int .i32 0, .int .i32 0, .int .i64 0, .int .i64 0, .int .u32 0, .int .i64 0], .int .i32 t2101] _ 50 (by kernel_rfl) (by kernel_rfl) (by kernel_rfl) (park_Park_Add.calls hc2111 hS) ?_)
            rintro v w ⟨A2109, C2110, rfl, hS⟩
            refine EL.done (by kernel_rfl) ?_
            refine EQ.pop ?_
            refine EQ.code ?_
            refine EW.region (id := 8) (ops := Cd6.r.r.r.r.r.l.r.l.l.r.r.ops) (by kernel_rfl) ?_
            refine EL.quick 3 [1, 2, 7, 8, 9, 10] [(1, .int .u8 a5), (2, .int .u8 a6), (7, .pointer (some ⟨g1636, 0, none⟩)), (8, .pointer (some ⟨g1648, 0, none⟩)), (9, .int .i64 (IntKind.i64.wrap ((IntKind.i64.wrap (Int.tmod a4 10)) + 1))), (10, .int .i64 (IntKind.i64.wrap (x2021 + 1)))] (by kernel_rfl) ?_
            refine EL.done (by kernel_rfl) ?_
            refine EQ.to ?_
            refine EQ.keep [1, 2, 7, 8, 9, 10] [(1, .int .u8 a5), (2, .int .u8 a6), (7, .pointer (some ⟨g1636, 0, none⟩)), (8, .pointer (some ⟨g1648, 0, none⟩)), (9, .int .i64 (IntKind.i64.wrap ((IntKind.i64.wrap (Int.tmod a4 10)) + 1))), (10, .int .i64 (IntKind.i64.wrap (x2021 + 1)))] (by kernel_rfl) ?_
            exact fun a ha => ⟨n, Nat.lt_succ_self n, t2108, t2100, IntKind.i64.wrap (x2021 + 1), A2109, C2110, A2103, C2104, ha, (hS.re [4, 4, 4, 4, 4] [] rfl (sub_cons 2 rfl (sub_cons 2 rfl (sub_tail (sub_tail (sub_tail (sub_tail (sub_self)))))))), H⟩
          · rw [if_neg h2107] at H
            refine EW.seq (x := Cd6.r.r.r.r.r.l.r.l.l.r.l.l.r.l.r.l.l) (y := Cd6.r.r.r.r.r.l.r.l.l.r.l.l.r.l.r.l.r) (by kernel_rfl) ?_
            refine EW.region (id := 11) (ops := Cd6.r.r.r.r.r.l.r.l.l.r.l.l.r.l.r.l.l.ops) (by kernel_rfl) ?_
            refine EL.quick 1 [6] [(6, .bool (false))] (by kernel_rfl) ?_
            refine EL.done (by kernel_rfl) ?_
            refine EQ.code ?_
            refine EW.ret (by kernel_rfl) ?_
            refine EQ.ret ?_
            refine EQ.ret ?_
            refine EQ.ret ?_
            refine EQ.ret ?_
            refine EQ.ret ?_
            refine EQ.ret ?_
            obtain rfl := Option.some.inj H
            exact EQ.leave (.bool (false)) (by kernel_rfl) ⟨_, rfl, rfl, (hS.re [] [0, 0, 0, 0, 0] rfl (sub_tail (sub_tail (sub_self))))⟩
        · rw [if_neg h2075] at H
          refine EW.exit (id := 0) (by kernel_rfl) ?_
          refine EQ.exitCode ?_
          refine EQ.exitTo ?_
          refine EQ.exitHere ?_
          refine EQ.to ?_
          refine EQ.keep [1, 2, 7, 8, 9] [(1, .int .u8 a5), (2, .int .u8 a6), (7, .pointer (some ⟨g1636, 0, none⟩)), (8, .pointer (some ⟨g1648, 0, none⟩)), (9, .int .i64 (IntKind.i64.wrap ((IntKind.i64.wrap (Int.tmod a4 10)) + 1)))] (by kernel_rfl) ?_
          exact fun a ha => ⟨x2015, x2018, A2016, C2017, A2019, C2020, ha, (hS.re [4, 4, 4, 4, 4] [] rfl (sub_cons 0 rfl (sub_cons 0 rfl (sub_tail (sub_tail (sub_self)))))), H⟩
    · obtain ⟨x1956, x1959, A1957, C1958, A1960, C1961, ha, hS, H⟩ := hI
      rw [hj1962] at H
      (try dsimp only at H)
      refine EW.at ?_ a ha
      clear ha a
      obtain ⟨j2734, hj2734, H⟩ := lt_out H
      refine EW.cut (x := Cd6.r.r.r.r.r.r.l) (y := Cd6.r.r.r.r.r.r.r) (fun a w => ∃ x2731 : List S60, ∃ A2732 : Option Addr, ∃ C2733 : Nat, Sat 147 [(2, .int .u8 a6), (7, .pointer (some ⟨g1636, 0, none⟩)), (8, .pointer (some ⟨g1648, 0, none⟩)), (9, .int .i64 (IntKind.i64.wrap ((IntKind.i64.wrap (Int.tmod a4 10)) + 1)))] a ∧ St B w (Ass.box 93 g1648 [.slice A2732 x2731.length C2733] :: Ass.box 91 g1636 [.slice A1960 x1959.length C1961, .slice A1639 t1635.length C1640] :: Ass.deep 94 96 kS96 A1960 C1961 x1959 :: Ass.own 3 (Kd.int .i64) A1639 C1640 t1635 :: Ass.own 60 kS60 A2732 C2733 x2731 :: os) (Ro.sl (Kd.int .i64) (some ⟨g1632, 0, none⟩) 1 l1633 :: Ro.sl (Kd.int .i64) (some ⟨g1632, 0, none⟩) 1 l1633 :: rs) ∧ j2734 x2731 = some x1611) (by kernel_rfl) ?_ (fun a w hI => ?_)
      · refine EW.seq (x := Cd6.r.r.r.r.r.r.l.l) (y := Cd6.r.r.r.r.r.r.l.r) (by kernel_rfl) ?_
        refine EW.region (id := 13) (ops := Cd6.r.r.r.r.r.r.l.l.ops) (by kernel_rfl) ?_
        refine EL.quick 1 [1, 2, 7, 8, 9, 13] [(1, .int .u8 a5), (2, .int .u8 a6), (7, .pointer (some ⟨g1636, 0, none⟩)), (8, .pointer (some ⟨g1648, 0, none⟩)), (9, .int .i64 (IntKind.i64.wrap ((IntKind.i64.wrap (Int.tmod a4 10)) + 1))), (13, .int .i64 0)] (by kernel_rfl) ?_
        refine EL.done (by kernel_rfl) ?_
        refine EQ.code ?_
        refine EW.block (x := Cd6.r.r.r.r.r.r.l.r.l) (id := 2) (by kernel_rfl) ?_
        refine EW.loop (x := Cd6.r.r.r.r.r.r.l.r.l.l) (fun n a w => ∃ x2839 : List S60, ∃ x2842 : Int, ∃ A2840 : Option Addr, ∃ C2841 : Nat, Sat 147 [(1, .int .u8 a5), (2, .int .u8 a6), (7, .pointer (some ⟨g1636, 0, none⟩)), (8, .pointer (some ⟨g1648, 0, none⟩)), (9, .int .i64 (IntKind.i64.wrap ((IntKind.i64.wrap (Int.tmod a4 10)) + 1))), (13, .int .i64 x2842)] a ∧ St B w (Ass.box 93 g1648 [.slice A2840 x2839.length C2841] :: Ass.box 91 g1636 [.slice A1960 x1959.length C1961, .slice A1639 t1635.length C1640] :: Ass.deep 94 96 kS96 A1960 C1961 x1959 :: Ass.own 3 (Kd.int .i64) A1639 C1640 t1635 :: Ass.own 60 kS60 A2840 C2841 x2839 :: os) (Ro.sl (Kd.int .i64) (some ⟨g1632, 0, none⟩) 1 l1633 :: Ro.sl (Kd.int .i64) (some ⟨g1632, 0, none⟩) 1 l1633 :: rs) ∧ confidantlaw20_ParkStays.l1 K a5 x1959 t1635 a4 j2734 n x2839 x2842 = some x1611) K (by kernel_rfl) ?_ (fun n a w hI => ?_)
        · refine EQ.keep [1, 2, 7, 8, 9, 13] [(1, .int .u8 a5), (2, .int .u8 a6), (7, .pointer (some ⟨g1636, 0, none⟩)), (8, .pointer (some ⟨g1648, 0, none⟩)), (9, .int .i64 (IntKind.i64.wrap ((IntKind.i64.wrap (Int.tmod a4 10)) + 1))), (13, .int .i64 0)] (by kernel_rfl) ?_
          exact fun a ha => ⟨x1956, 0, A1957, C1958, ha, (hS.re [1, 4, 4, 4, 4] [] rfl (sub_cons 0 rfl (sub_cons 0 rfl (sub_tail (sub_tail (sub_self)))))), H⟩
        · obtain ⟨x2839, x2842, A2840, C2841, ha, hS, H⟩ := hI
          obtain _ | n := n
          · simp [confidantlaw20_ParkStays.l1] at H
          rw [confidantlaw20_ParkStays.l1.eq_2] at H
          refine EW.at ?_ a ha
          clear ha a
          refine EW.seq (x := Cd6.r.r.r.r.r.r.l.r.l.l.l) (y := Cd6.r.r.r.r.r.r.l.r.l.l.r) (by kernel_rfl) ?_
          refine EW.seq (x := Cd6.r.r.r.r.r.r.l.r.l.l.l.l) (y := Cd6.r.r.r.r.r.r.l.r.l.l.l.r) (by kernel_rfl) ?_
          refine EW.region (id := 14) (ops := Cd6.r.r.r.r.r.r.l.r.l.l.l.l.ops) (by kernel_rfl) ?_
          refine EL.quick 5 [1, 2, 7, 8, 9, 13, 55] [(1, .int .u8 a5), (2, .int .u8 a6), (7, .pointer (some ⟨g1636, 0, none⟩)), (8, .pointer (some ⟨g1648, 0, none⟩)), (9, .int .i64 (IntKind.i64.wrap ((IntKind.i64.wrap (Int.tmod a4 10)) + 1))), (13, .int .i64 x2842), (55, .bool (decide (x2842 < (IntKind.i64.wrap (Int.tmod a5 5)))))] (by kernel_rfl) ?_
          refine EL.done (by kernel_rfl) ?_
          refine EQ.code ?_
          refine EW.condP (o := (.tmp 55)) (x := Cd6.r.r.r.r.r.r.l.r.l.l.l.r.l) (y := Cd6.r.r.r.r.r.r.l.r.l.l.l.r.r) (x2842 < (IntKind.i64.wrap (Int.tmod a5 5))) (by kernel_rfl) (by kernel_rfl) (fun h2948 => ?_) (fun h2948 => ?_)
          · rw [if_pos h2948] at H
            refine EW.skip (by kernel_rfl) ?_
            refine EQ.code ?_
            refine EW.seq (x := Cd6.r.r.r.r.r.r.l.r.l.l.r.l) (y := Cd6.r.r.r.r.r.r.l.r.l.l.r.r) (by kernel_rfl) ?_
            refine EW.block (x := Cd6.r.r.r.r.r.r.l.r.l.l.r.l.l) (id := 3) (by kernel_rfl) ?_
            refine EW.seq (x := Cd6.r.r.r.r.r.r.l.r.l.l.r.l.l.l) (y := Cd6.r.r.r.r.r.r.l.r.l.l.r.l.l.r) (by kernel_rfl) ?_
            refine EW.region (id := 16) (ops := Cd6.r.r.r.r.r.r.l.r.l.l.r.l.l.l.ops) (by kernel_rfl) ?_
            refine EL.quick 2 [1, 2, 7, 8, 9, 13, 59, 60] [(1, .int .u8 a5), (2, .int .u8 a6), (7, .pointer (some ⟨g1636, 0, none⟩)), (8, .pointer (some ⟨g1648, 0, none⟩)), (9, .int .i64 (IntKind.i64.wrap ((IntKind.i64.wrap (Int.tmod a4 10)) + 1))), (13, .int .i64 x2842), (59, .pointer (some ⟨g1648, 0, none⟩)), (60, .pointer (some ⟨g1636, 0, none⟩))] (by kernel_rfl) ?_
            have hS : St B _ (Ass.box 93 g1648 [.slice A2840 x2839.length C2841] :: Ass.own 60 kS60 A2840 C2841 x2839 :: Ass.box 91 g1636 [.slice A1960 x1959.length C1961, .slice A1639 t1635.length C1640] :: Ass.deep 94 96 kS96 A1960 C1961 x1959 :: Ass.own 3 (Kd.int .i64) A1639 C1640 t1635 :: os) (Ro.sl (Kd.int .i64) (some ⟨g1632, 0, none⟩) 1 l1633 :: Ro.sl (Kd.int .i64) (some ⟨g1632, 0, none⟩) 1 l1633 :: rs) := hS.re [3, 3, 3, 4, 4] [] rfl sub_self
            obtain ⟨t3007, t3008, t3009, t3010, hc3017, H⟩ := b4_out H
            refine EL.of (EO.callD 16 [.pointer (some ⟨g1648, 0, none⟩), .pointer (some ⟨g1636, 0, none⟩), .int .i64 100] _ 61 (by kernel_rfl) (by kernel_rfl) (by kernel_rfl) (park_Park_Look.calls hc3017 hS) ?_)
            rintro v w ⟨A3011, C3012, A3013, C3014, A3015, C3016, rfl, hS⟩
            refine EL.quick 7 [1, 2, 7, 8, 9, 13, 14, 15, 16] [(1, .int .u8 a5), (2, .int .u8 a6), (7, .pointer (some ⟨g1636, 0, none⟩)), (8, .pointer (some ⟨g1648, 0, none⟩)), (9, .int .i64 (IntKind.i64.wrap ((IntKind.i64.wrap (Int.tmod a4 10)) + 1))), (13, .int .i64 x2842), (14, .slice A3013 t3008.length C3014), (15, .slice A3015 t3009.length C3016), (16, .int .i64 t3010)] (by kernel_rfl) ?_
            refine EL.done (by kernel_rfl) ?_
            refine EQ.code ?_
            obtain ⟨j3034, hj3034, H⟩ := lt_out H
            refine EW.cut (x := Cd6.r.r.r.r.r.r.l.r.l.l.r.l.l.r.l) (y := Cd6.r.r.r.r.r.r.l.r.l.l.r.l.l.r.r) (fun a w => ∃ x3033 : Bool, Sat 147 [(1, .int .u8 a5), (2, .int .u8 a6), (7, .pointer (some ⟨g1636, 0, none⟩)), (8, .pointer (some ⟨g1648, 0, none⟩)), (9, .int .i64 (IntKind.i64.wrap ((IntKind.i64.wrap (Int.tmod a4 10)) + 1))), (13, .int .i64 x2842), (84, .bool (x3033))] a ∧ St B w (Ass.box 93 g1648 [.slice A3011 t3007.length C3012] :: Ass.own 60 kS60 A3011 C3012 t3007 :: Ass.own 60 kS60 A2840 C2841 x2839 :: Ass.box 91 g1636 [.slice A1960 x1959.length C1961, .slice A1639 t1635.length C1640] :: Ass.deep 94 96 kS96 A1960 C1961 x1959 :: Ass.own 3 (Kd.int .i64) A1639 C1640 t1635 :: Ass.own 36 kS36 A3013 C3014 t3008 :: Ass.own 36 kS36 A3015 C3016 t3009 :: os) (Ro.sl (Kd.int .i64) (some ⟨g1632, 0, none⟩) 1 l1633 :: Ro.sl (Kd.int .i64) (some ⟨g1632, 0, none⟩) 1 l1633 :: rs) ∧ j3034 x3033 = some x1611) (by kernel_rfl) ?_ (fun a w hI => ?_)
            · refine EW.region (id := 17) (ops := Cd6.r.r.r.r.r.r.l.r.l.l.r.l.l.r.l.ops) (by kernel_rfl) ?_
              refine EL.quick 4 [1, 2, 7, 8, 9, 13, 15, 16, 68] [(1, .int .u8 a5), (2, .int .u8 a6), (7, .pointer (some ⟨g1636, 0, none⟩)), (8, .pointer (some ⟨g1648, 0, none⟩)), (9, .int .i64 (IntKind.i64.wrap ((IntKind.i64.wrap (Int.tmod a4 10)) + 1))), (13, .int .i64 x2842), (15, .slice A3015 t3009.length C3016), (16, .int .i64 t3010), (68, .bool (!(decide ((t3008.length : Int) = 0))))] (by kernel_rfl) ?_
              by_cases h3035 : (t3008.length : Int) = 0
              · rw [if_pos h3035] at H
                refine EL.keep [1, 2, 7, 8, 9, 13, 15, 16, 68] [(1, .int .u8 a5), (2, .int .u8 a6), (7, .pointer (some ⟨g1636, 0, none⟩)), (8, .pointer (some ⟨g1648, 0, none⟩)), (9, .int .i64 (IntKind.i64.wrap ((IntKind.i64.wrap (Int.tmod a4 10)) + 1))), (13, .int .i64 x2842), (15, .slice A3015 t3009.length C3016), (16, .int .i64 t3010), (68, .bool (!(decide ((t3008.length : Int) = 0))))] (by kernel_rfl) ?_
                refine EL.as' [(1, .int .u8 a5), (2, .int .u8 a6), (7, .pointer (some ⟨g1636, 0, none⟩)), (8, .pointer (some ⟨g1648, 0, none⟩)), (9, .int .i64 (IntKind.i64.wrap ((IntKind.i64.wrap (Int.tmod a4 10)) + 1))), (13, .int .i64 x2842), (15, .slice A3015 t3009.length C3016), (16, .int .i64 t3010), (68, .bool (false))] (by simp only [dec_t h3035, Bool.not_true, Bool.not_false]) ?_
                refine EL.quick 5 [1, 2, 7, 8, 9, 13, 16, 69, 70, 71, 73] [(1, .int .u8 a5), (2, .int .u8 a6), (7, .pointer (some ⟨g1636, 0, none⟩)), (8, .pointer (some ⟨g1648, 0, none⟩)), (9, .int .i64 (IntKind.i64.wrap ((IntKind.i64.wrap (Int.tmod a4 10)) + 1))), (13, .int .i64 x2842), (16, .int .i64 t3010), (69, .slice A3015 t3009.length C3016), (70, .int .i64 (t3009.length : Int)), (71, .bool (!(decide ((t3009.length : Int) = 0)))), (73, .bool (!(decide ((t3009.length : Int) = 0))))] (by kernel_rfl) ?_
                by_cases h3036 : (t3009.length : Int) = 0
                · rw [if_pos h3036] at H
                  refine EL.keep [1, 2, 7, 8, 9, 13, 16, 69, 70, 71, 73] [(1, .int .u8 a5), (2, .int .u8 a6), (7, .pointer (some ⟨g1636, 0, none⟩)), (8, .pointer (some ⟨g1648, 0, none⟩)), (9, .int .i64 (IntKind.i64.wrap ((IntKind.i64.wrap (Int.tmod a4 10)) + 1))), (13, .int .i64 x2842), (16, .int .i64 t3010), (69, .slice A3015 t3009.length C3016), (70, .int .i64 (t3009.length : Int)), (71, .bool (!(decide ((t3009.length : Int) = 0)))), (73, .bool (!(decide ((t3009.length : Int) = 0))))] (by kernel_rfl) ?_
                  refine EL.as' [(1, .int .u8 a5), (2, .int .u8 a6), (7, .pointer (some ⟨g1636, 0, none⟩)), (8, .pointer (some ⟨g1648, 0, none⟩)), (9, .int .i64 (IntKind.i64.wrap ((IntKind.i64.wrap (Int.tmod a4 10)) + 1))), (13, .int .i64 x2842), (16, .int .i64 t3010), (69, .slice A3015 t3009.length C3016), (70, .int .i64 (t3009.length : Int)), (71, .bool (false)), (73, .bool (false))] (by simp only [dec_t h3036, Bool.not_true, Bool.not_false]) ?_
                  refine EL.quick 6 [1, 2, 7, 8, 9, 13, 69, 70, 71, 74, 75, 76, 77, 79] [(1, .int .u8 a5), (2, .int .u8 a6), (7, .pointer (some ⟨g1636, 0, none⟩)), (8, .pointer (some ⟨g1648, 0, none⟩)), (9, .int .i64 (IntKind.i64.wrap ((IntKind.i64.wrap (Int.tmod a4 10)) + 1))), (13, .int .i64 x2842), (69, .slice A3015 t3009.length C3016), (70, .int .i64 (t3009.length : Int)), (71, .bool (false)), (74, .int .i64 t3010), (75, .int .i64 (IntKind.i64.wrap ((IntKind.i64.wrap (Int.tmod a4 10)) + 1))), (76, .int .i64 (IntKind.i64.wrap (100 - (IntKind.i64.wrap ((IntKind.i64.wrap (Int.tmod a4 10)) + 1))))), (77, .bool (!(decide (t3010 = (IntKind.i64.wrap (100 - (IntKind.i64.wrap ((IntKind.i64.wrap (Int.tmod a4 10)) + 1)))))))), (79, .bool (!(decide (t3010 = (IntKind.i64.wrap (100 - (IntKind.i64.wrap ((IntKind.i64.wrap (Int.tmod a4 10)) + 1))))))))] (by kernel_rfl) ?_
                  by_cases h3037 : t3010 = (IntKind.i64.wrap (100 - (IntKind.i64.wrap ((IntKind.i64.wrap (Int.tmod a4 10)) + 1))))
                  · rw [if_pos h3037] at H
                    refine EL.keep [1, 2, 7, 8, 9, 13, 69, 70, 71, 74, 75, 76, 77, 79] [(1, .int .u8 a5), (2, .int .u8 a6), (7, .pointer (some ⟨g1636, 0, none⟩)), (8, .pointer (some ⟨g1648, 0, none⟩)), (9, .int .i64 (IntKind.i64.wrap ((IntKind.i64.wrap (Int.tmod a4 10)) + 1))), (13, .int .i64 x2842), (69, .slice A3015 t3009.length C3016), (70, .int .i64 (t3009.length : Int)), (71, .bool (false)), (74, .int .i64 t3010), (75, .int .i64 (IntKind.i64.wrap ((IntKind.i64.wrap (Int.tmod a4 10)) + 1))), (76, .int .i64 (IntKind.i64.wrap (100 - (IntKind.i64.wrap ((IntKind.i64.wrap (Int.tmod a4 10)) + 1))))), (77, .bool (!(decide (t3010 = (IntKind.i64.wrap (100 - (IntKind.i64.wrap ((IntKind.i64.wrap (Int.tmod a4 10)) + 1)))))))), (79, .bool (!(decide (t3010 = (IntKind.i64.wrap (100 - (IntKind.i64.wrap ((IntKind.i64.wrap (Int.tmod a4 10)) + 1))))))))] (by kernel_rfl) ?_
                    refine EL.as' [(1, .int .u8 a5), (2, .int .u8 a6), (7, .pointer (some ⟨g1636, 0, none⟩)), (8, .pointer (some ⟨g1648, 0, none⟩)), (9, .int .i64 (IntKind.i64.wrap ((IntKind.i64.wrap (Int.tmod a4 10)) + 1))), (13, .int .i64 x2842), (69, .slice A3015 t3009.length C3016), (70, .int .i64 (t3009.length : Int)), (71, .bool (false)), (74, .int .i64 t3010), (75, .int .i64 (IntKind.i64.wrap ((IntKind.i64.wrap (Int.tmod a4 10)) + 1))), (76, .int .i64 (IntKind.i64.wrap (100 - (IntKind.i64.wrap ((IntKind.i64.wrap (Int.tmod a4 10)) + 1))))), (77, .bool (false)), (79, .bool (false))] (by simp only [dec_t h3037, Bool.not_true, Bool.not_false]) ?_
                    refine EL.quick 1 [1, 2, 7, 8, 9, 13, 69, 70, 71, 74, 75, 76, 77, 79, 80] [(1, .int .u8 a5), (2, .int .u8 a6), (7, .pointer (some ⟨g1636, 0, none⟩)), (8, .pointer (some ⟨g1648, 0, none⟩)), (9, .int .i64 (IntKind.i64.wrap ((IntKind.i64.wrap (Int.tmod a4 10)) + 1))), (13, .int .i64 x2842), (69, .slice A3015 t3009.length C3016), (70, .int .i64 (t3009.length : Int)), (71, .bool (false)), (74, .int .i64 t3010), (75, .int .i64 (IntKind.i64.wrap ((IntKind.i64.wrap (Int.tmod a4 10)) + 1))), (76, .int .i64 (IntKind.i64.wrap (100 - (IntKind.i64.wrap ((IntKind.i64.wrap (Int.tmod a4 10)) + 1))))), (77, .bool (false)), (79, .bool (false)), (80, .pointer (some ⟨g1648, 0, none⟩))] (by kernel_rfl) ?_
                    have hS : St B _ (Ass.box 93 g1648 [.slice A3011 t3007.length C3012] :: Ass.own 60 kS60 A3011 C3012 t3007 :: Ass.own 60 kS60 A2840 C2841 x2839 :: Ass.box 91 g1636 [.slice A1960 x1959.length C1961, .slice A1639 t1635.length C1640] :: Ass.deep 94 96 kS96 A1960 C1961 x1959 :: Ass.own 3 (Kd.int .i64) A1639 C1640 t1635 :: Ass.own 36 kS36 A3013 C3014 t3008 :: Ass.own 36 kS36 A3015 C3016 t3009 :: os) (Ro.sl (Kd.int .i64) (some ⟨g1632, 0, none⟩) 1 l1633 :: Ro.sl (Kd.int .i64) (some ⟨g1632, 0, none⟩) 1 l1633 :: rs) := hS.re [5, 1] [] rfl sub_self
                    obtain ⟨t3038, hc3039, H⟩ := b1_out H
                    refine EL.of (EO.callD 17 [.pointer (some ⟨g1648, 0, none⟩)] _ 81 (by kernel_rfl) (by kernel_rfl) (by kernel_rfl) (park_Park_Len.calls hc3039 hS) ?_)
                    rintro v w ⟨rfl, hS⟩
                    refine EL.quick 3 [1, 2, 7, 8, 9, 13, 69, 70, 71, 74, 75, 76, 77, 80, 81, 82, 83, 84] [(1, .int .u8 a5), (2, .int .u8 a6), (7, .pointer (some ⟨g1636, 0, none⟩)), (8, .pointer (some ⟨g1648, 0, none⟩)), (9, .int .i64 (IntKind.i64.wrap ((IntKind.i64.wrap (Int.tmod a4 10)) + 1))), (13, .int .i64 x2842), (69, .slice A3015 t3009.length C3016), (70, .int .i64 (t3009.length : Int)), (71, .bool (false)), (74, .int .i64 t3010), (75, .int .i64 (IntKind.i64.wrap ((IntKind.i64.wrap (Int.tmod a4 10)) + 1))), (76, .int .i64 (IntKind.i64.wrap (100 - (IntKind.i64.wrap ((IntKind.i64.wrap (Int.tmod a4 10)) + 1))))), (77, .bool (false)), (80, .pointer (some ⟨g1648, 0, none⟩)), (81, .int .i64 t3038), (82, .int .i64 (IntKind.i64.wrap ((IntKind.i64.wrap (Int.tmod a4 10)) + 1))), (83, .bool (!(decide (t3038 = (IntKind.i64.wrap ((IntKind.i64.wrap (Int.tmod a4 10)) + 1)))))), (84, .bool (!(decide (t3038 = (IntKind.i64.wrap ((IntKind.i64.wrap (Int.tmod a4 10)) + 1))))))] (by kernel_rfl) ?_
                    obtain ⟨y3040, hy3040, H⟩ := lt_out H
                    refine EL.keep [1, 2, 7, 8, 9, 13, 69, 70, 71, 74, 75, 76, 77, 80, 81, 82, 83, 84] [(1, .int .u8 a5), (2, .int .u8 a6), (7, .pointer (some ⟨g1636, 0, none⟩)), (8, .pointer (some ⟨g1648, 0, none⟩)), (9, .int .i64 (IntKind.i64.wrap ((IntKind.i64.wrap (Int.tmod a4 10)) + 1))), (13, .int .i64 x2842), (69, .slice A3015 t3009.length C3016), (70, .int .i64 (t3009.length : Int)), (71, .bool (false)), (74, .int .i64 t3010), (75, .int .i64 (IntKind.i64.wrap ((IntKind.i64.wrap (Int.tmod a4 10)) + 1))), (76, .int .i64 (IntKind.i64.wrap (100 - (IntKind.i64.wrap ((IntKind.i64.wrap (Int.tmod a4 10)) + 1))))), (77, .bool (false)), (80, .pointer (some ⟨g1648, 0, none⟩)), (81, .int .i64 t3038), (82, .int .i64 (IntKind.i64.wrap ((IntKind.i64.wrap (Int.tmod a4 10)) + 1))), (83, .bool (!(decide (t3038 = (IntKind.i64.wrap ((IntKind.i64.wrap (Int.tmod a4 10)) + 1)))))), (84, .bool (!(decide (t3038 = (IntKind.i64.wrap ((IntKind.i64.wrap (Int.tmod a4 10)) + 1))))))] (by kernel_rfl) ?_
                    refine EL.as' [(1, .int .u8 a5), (2, .int .u8 a6), (7, .pointer (some ⟨g1636, 0, none⟩)), (8, .pointer (some ⟨g1648, 0, none⟩)), (9, .int .i64 (IntKind.i64.wrap ((IntKind.i64.wrap (Int.tmod a4 10)) + 1))), (13, .int .i64 x2842), (69, .slice A3015 t3009.length C3016), (70, .int .i64 (t3009.length : Int)), (71, .bool (false)), (74, .int .i64 t3010), (75, .int .i64 (IntKind.i64.wrap ((IntKind.i64.wrap (Int.tmod a4 10)) + 1))), (76, .int .i64 y3040), (77, .bool (false)), (80, .pointer (some ⟨g1648, 0, none⟩)), (81, .int .i64 t3038), (82, .int .i64 (IntKind.i64.wrap ((IntKind.i64.wrap (Int.tmod a4 10)) + 1))), (83, .bool (!(decide (t3038 = (IntKind.i64.wrap ((IntKind.i64.wrap (Int.tmod a4 10)) + 1)))))), (84, .bool (!(decide (t3038 = (IntKind.i64.wrap ((IntKind.i64.wrap (Int.tmod a4 10)) + 1))))))] (by subst hy3040; rfl) ?_
                    refine EL.done (by kernel_rfl) ?_
                    refine EQ.to ?_
                    refine EQ.keep [1, 2, 7, 8, 9, 13, 84] [(1, .int .u8 a5), (2, .int .u8 a6), (7, .pointer (some ⟨g1636, 0, none⟩)), (8, .pointer (some ⟨g1648, 0, none⟩)), (9, .int .i64 (IntKind.i64.wrap ((IntKind.i64.wrap (Int.tmod a4 10)) + 1))), (13, .int .i64 x2842), (84, .bool (!(decide (t3038 = (IntKind.i64.wrap ((IntKind.i64.wrap (Int.tmod a4 10)) + 1))))))] (by kernel_rfl) ?_
                    exact fun a ha => ⟨!(decide (t3038 = (IntKind.i64.wrap ((IntKind.i64.wrap (Int.tmod a4 10)) + 1)))), ha, (hS.re [7, 7, 7, 7, 7, 7, 7, 7] [] rfl (sub_cons 0 rfl (sub_cons 0 rfl (sub_tail (sub_tail (sub_self)))))), H⟩
                  · rw [if_neg h3037] at H
                    refine EL.keep [1, 2, 7, 8, 9, 13, 69, 70, 71, 74, 75, 76, 77, 79] [(1, .int .u8 a5), (2, .int .u8 a6), (7, .pointer (some ⟨g1636, 0, none⟩)), (8, .pointer (some ⟨g1648, 0, none⟩)), (9, .int .i64 (IntKind.i64.wrap ((IntKind.i64.wrap (Int.tmod a4 10)) + 1))), (13, .int .i64 x2842), (69, .slice A3015 t3009.length C3016), (70, .int .i64 (t3009.length : Int)), (71, .bool (false)), (74, .int .i64 t3010), (75, .int .i64 (IntKind.i64.wrap ((IntKind.i64.wrap (Int.tmod a4 10)) + 1))), (76, .int .i64 (IntKind.i64.wrap (100 - (IntKind.i64.wrap ((IntKind.i64.wrap (Int.tmod a4 10)) + 1))))), (77, .bool (!(decide (t3010 = (IntKind.i64.wrap (100 - (IntKind.i64.wrap ((IntKind.i64.wrap (Int.tmod a4 10)) + 1)))))))), (79, .bool (!(decide (t3010 = (IntKind.i64.wrap (100 - (IntKind.i64.wrap ((IntKind.i64.wrap (Int.tmod a4 10)) + 1))))))))] (by kernel_rfl) ?_
                    refine EL.as' [(1, .int .u8 a5), (2, .int .u8 a6), (7, .pointer (some ⟨g1636, 0, none⟩)), (8, .pointer (some ⟨g1648, 0, none⟩)), (9, .int .i64 (IntKind.i64.wrap ((IntKind.i64.wrap (Int.tmod a4 10)) + 1))), (13, .int .i64 x2842), (69, .slice A3015 t3009.length C3016), (70, .int .i64 (t3009.length : Int)), (71, .bool (false)), (74, .int .i64 t3010), (75, .int .i64 (IntKind.i64.wrap ((IntKind.i64.wrap (Int.tmod a4 10)) + 1))), (76, .int .i64 (IntKind.i64.wrap (100 - (IntKind.i64.wrap ((IntKind.i64.wrap (Int.tmod a4 10)) + 1))))), (77, .bool (true)), (79, .bool (true))] (by simp only [dec_f h3037, Bool.not_true, Bool.not_false]) ?_
                    refine EL.quick 5 [1, 2, 7, 8, 9, 13, 69, 70, 71, 74, 75, 76, 77, 84] [(1, .int .u8 a5), (2, .int .u8 a6), (7, .pointer (some ⟨g1636, 0, none⟩)), (8, .pointer (some ⟨g1648, 0, none⟩)), (9, .int .i64 (IntKind.i64.wrap ((IntKind.i64.wrap (Int.tmod a4 10)) + 1))), (13, .int .i64 x2842), (69, .slice A3015 t3009.length C3016), (70, .int .i64 (t3009.length : Int)), (71, .bool (false)), (74, .int .i64 t3010), (75, .int .i64 (IntKind.i64.wrap ((IntKind.i64.wrap (Int.tmod a4 10)) + 1))), (76, .int .i64 (IntKind.i64.wrap (100 - (IntKind.i64.wrap ((IntKind.i64.wrap (Int.tmod a4 10)) + 1))))), (77, .bool (true)), (84, .bool (true))] (by kernel_rfl) ?_
                    obtain ⟨y3041, hy3041, H⟩ := lt_out H
                    refine EL.keep [1, 2, 7, 8, 9, 13, 69, 70, 71, 74, 75, 76, 77, 84] [(1, .int .u8 a5), (2, .int .u8 a6), (7, .pointer (some ⟨g1636, 0, none⟩)), (8, .pointer (some ⟨g1648, 0, none⟩)), (9, .int .i64 (IntKind.i64.wrap ((IntKind.i64.wrap (Int.tmod a4 10)) + 1))), (13, .int .i64 x2842), (69, .slice A3015 t3009.length C3016), (70, .int .i64 (t3009.length : Int)), (71, .bool (false)), (74, .int .i64 t3010), (75, .int .i64 (IntKind.i64.wrap ((IntKind.i64.wrap (Int.tmod a4 10)) + 1))), (76, .int .i64 (IntKind.i64.wrap (100 - (IntKind.i64.wrap ((IntKind.i64.wrap (Int.tmod a4 10)) + 1))))), (77, .bool (true)), (84, .bool (true))] (by kernel_rfl) ?_
                    refine EL.as' [(1, .int .u8 a5), (2, .int .u8 a6), (7, .pointer (some ⟨g1636, 0, none⟩)), (8, .pointer (some ⟨g1648, 0, none⟩)), (9, .int .i64 (IntKind.i64.wrap ((IntKind.i64.wrap (Int.tmod a4 10)) + 1))), (13, .int .i64 x2842), (69, .slice A3015 t3009.length C3016), (70, .int .i64 (t3009.length : Int)), (71, .bool (false)), (74, .int .i64 t3010), (75, .int .i64 (IntKind.i64.wrap ((IntKind.i64.wrap (Int.tmod a4 10)) + 1))), (76, .int .i64 y3041), (77, .bool (true)), (84, .bool (true))] (by subst hy3041; rfl) ?_
                    refine EL.done (by kernel_rfl) ?_
                    refine EQ.to ?_
                    refine EQ.keep [1, 2, 7, 8, 9, 13, 84] [(1, .int .u8 a5), (2, .int .u8 a6), (7, .pointer (some ⟨g1636, 0, none⟩)), (8, .pointer (some ⟨g1648, 0, none⟩)), (9, .int .i64 (IntKind.i64.wrap ((IntKind.i64.wrap (Int.tmod a4 10)) + 1))), (13, .int .i64 x2842), (84, .bool (true))] (by kernel_rfl) ?_
                    exact fun a ha => ⟨true, ha, (hS.re [7, 7, 6, 6, 6, 6, 7, 7] [] rfl (sub_cons 0 rfl (sub_cons 0 rfl (sub_tail (sub_tail (sub_self)))))), H⟩
                · rw [if_neg h3036] at H
                  refine EL.keep [1, 2, 7, 8, 9, 13, 16, 69, 70, 71, 73] [(1, .int .u8 a5), (2, .int .u8 a6), (7, .pointer (some ⟨g1636, 0, none⟩)), (8, .pointer (some ⟨g1648, 0, none⟩)), (9, .int .i64 (IntKind.i64.wrap ((IntKind.i64.wrap (Int.tmod a4 10)) + 1))), (13, .int .i64 x2842), (16, .int .i64 t3010), (69, .slice A3015 t3009.length C3016), (70, .int .i64 (t3009.length : Int)), (71, .bool (!(decide ((t3009.length : Int) = 0)))), (73, .bool (!(decide ((t3009.length : Int) = 0))))] (by kernel_rfl) ?_
                  refine EL.as' [(1, .int .u8 a5), (2, .int .u8 a6), (7, .pointer (some ⟨g1636, 0, none⟩)), (8, .pointer (some ⟨g1648, 0, none⟩)), (9, .int .i64 (IntKind.i64.wrap ((IntKind.i64.wrap (Int.tmod a4 10)) + 1))), (13, .int .i64 x2842), (16, .int .i64 t3010), (69, .slice A3015 t3009.length C3016), (70, .int .i64 (t3009.length : Int)), (71, .bool (true)), (73, .bool (true))] (by simp only [dec_f h3036, Bool.not_true, Bool.not_false]) ?_
                  refine EL.quick 11 [1, 2, 7, 8, 9, 13, 69, 70, 71, 84] [(1, .int .u8 a5), (2, .int .u8 a6), (7, .pointer (some ⟨g1636, 0, none⟩)), (8, .pointer (some ⟨g1648, 0, none⟩)), (9, .int .i64 (IntKind.i64.wrap ((IntKind.i64.wrap (Int.tmod a4 10)) + 1))), (13, .int .i64 x2842), (69, .slice A3015 t3009.length C3016), (70, .int .i64 (t3009.length : Int)), (71, .bool (true)), (84, .bool (true))] (by kernel_rfl) ?_
                  refine EL.done (by kernel_rfl) ?_
                  refine EQ.to ?_
                  refine EQ.keep [1, 2, 7, 8, 9, 13, 84] [(1, .int .u8 a5), (2, .int .u8 a6), (7, .pointer (some ⟨g1636, 0, none⟩)), (8, .pointer (some ⟨g1648, 0, none⟩)), (9, .int .i64 (IntKind.i64.wrap ((IntKind.i64.wrap (Int.tmod a4 10)) + 1))), (13, .int .i64 x2842), (84, .bool (true))] (by kernel_rfl) ?_
                  exact fun a ha => ⟨true, ha, (hS.re [7, 7, 6, 6, 6, 6, 7, 7] [] rfl (sub_cons 0 rfl (sub_cons 0 rfl (sub_tail (sub_tail (sub_self)))))), H⟩
              · rw [if_neg h3035] at H
                refine EL.keep [1, 2, 7, 8, 9, 13, 15, 16, 68] [(1, .int .u8 a5), (2, .int .u8 a6), (7, .pointer (some ⟨g1636, 0, none⟩)), (8, .pointer (some ⟨g1648, 0, none⟩)), (9, .int .i64 (IntKind.i64.wrap ((IntKind.i64.wrap (Int.tmod a4 10)) + 1))), (13, .int .i64 x2842), (15, .slice A3015 t3009.length C3016), (16, .int .i64 t3010), (68, .bool (!(decide ((t3008.length : Int) = 0))))] (by kernel_rfl) ?_
                refine EL.as' [(1, .int .u8 a5), (2, .int .u8 a6), (7, .pointer (some ⟨g1636, 0, none⟩)), (8, .pointer (some ⟨g1648, 0, none⟩)), (9, .int .i64 (IntKind.i64.wrap ((IntKind.i64.wrap (Int.tmod a4 10)) + 1))), (13, .int .i64 x2842), (15, .slice A3015 t3009.length C3016), (16, .int .i64 t3010), (68, .bool (true))] (by simp only [dec_f h3035, Bool.not_true, Bool.not_false]) ?_
                refine EL.quick 16 [1, 2, 7, 8, 9, 13, 84] [(1, .int .u8 a5), (2, .int .u8 a6), (7, .pointer (some ⟨g1636, 0, none⟩)), (8, .pointer (some ⟨g1648, 0, none⟩)), (9, .int .i64 (IntKind.i64.wrap ((IntKind.i64.wrap (Int.tmod a4 10)) + 1))), (13, .int .i64 x2842), (84, .bool (true))] (by kernel_rfl) ?_
                refine EL.done (by kernel_rfl) ?_
                refine EQ.to ?_
                refine EQ.keep [1, 2, 7, 8, 9, 13, 84] [(1, .int .u8 a5), (2, .int .u8 a6), (7, .pointer (some ⟨g1636, 0, none⟩)), (8, .pointer (some ⟨g1648, 0, none⟩)), (9, .int .i64 (IntKind.i64.wrap ((IntKind.i64.wrap (Int.tmod a4 10)) + 1))), (13, .int .i64 x2842), (84, .bool (true))] (by kernel_rfl) ?_
                exact fun a ha => ⟨true, ha, (hS.re [7, 7, 6, 6, 6, 6, 7, 7] [] rfl (sub_cons 0 rfl (sub_cons 0 rfl (sub_tail (sub_tail (sub_self)))))), H⟩
            · obtain ⟨x3033, ha, hS, H⟩ := hI
              rw [hj3034] at H
              (try dsimp only at H)
              refine EW.at ?_ a ha
              clear ha a
              refine EW.condP' (o := (.tmp 84)) (x := Cd6.r.r.r.r.r.r.l.r.l.l.r.l.l.r.r.l) (y := Cd6.r.r.r.r.r.r.l.r.l.l.r.l.l.r.r.r) (x3033) (by kernel_rfl) (by kernel_rfl) (fun h3042 => ?_) (fun h3042 => ?_)
              · rw [if_pos h3042] at H
                refine EW.seq (x := Cd6.r.r.r.r.r.r.l.r.l.l.r.l.l.r.r.l.l) (y := Cd6.r.r.r.r.r.r.l.r.l.l.r.l.l.r.r.l.r) (by kernel_rfl) ?_
                refine EW.region (id := 18) (ops := Cd6.r.r.r.r.r.r.l.r.l.l.r.l.l.r.r.l.l.ops) (by kernel_rfl) ?_
                refine EL.quick 1 [6] [(6, .bool (false))] (by kernel_rfl) ?_
                refine EL.done (by kernel_rfl) ?_
                refine EQ.code ?_
                refine EW.ret (by kernel_rfl) ?_
                refine EQ.ret ?_
                refine EQ.ret ?_
                refine EQ.ret ?_
                refine EQ.ret ?_
                refine EQ.ret ?_
                obtain rfl := Option.some.inj H
                exact EQ.leave (.bool (false)) (by kernel_rfl) ⟨_, rfl, rfl, (hS.re [] [0, 0, 0, 0, 0, 0, 0, 0] rfl (sub_tail (sub_tail (sub_self))))⟩
              · rw [if_neg h3042] at H
                refine EW.skip (by kernel_rfl) ?_
                refine EQ.pop ?_
                refine EQ.code ?_
                refine EW.region (id := 15) (ops := Cd6.r.r.r.r.r.r.l.r.l.l.r.r.ops) (by kernel_rfl) ?_
                refine EL.quick 3 [1, 2, 7, 8, 9, 13] [(1, .int .u8 a5), (2, .int .u8 a6), (7, .pointer (some ⟨g1636, 0, none⟩)), (8, .pointer (some ⟨g1648, 0, none⟩)), (9, .int .i64 (IntKind.i64.wrap ((IntKind.i64.wrap (Int.tmod a4 10)) + 1))), (13, .int .i64 (IntKind.i64.wrap (x2842 + 1)))] (by kernel_rfl) ?_
                refine EL.done (by kernel_rfl) ?_
                refine EQ.to ?_
                refine EQ.keep [1, 2, 7, 8, 9, 13] [(1, .int .u8 a5), (2, .int .u8 a6), (7, .pointer (some ⟨g1636, 0, none⟩)), (8, .pointer (some ⟨g1648, 0, none⟩)), (9, .int .i64 (IntKind.i64.wrap ((IntKind.i64.wrap (Int.tmod a4 10)) + 1))), (13, .int .i64 (IntKind.i64.wrap (x2842 + 1)))] (by kernel_rfl) ?_
                exact fun a ha => ⟨n, Nat.lt_succ_self n, t3007, IntKind.i64.wrap (x2842 + 1), A3011, C3012, ha, (hS.re [1, 5, 5, 5, 4] [5, 5, 5] rfl (sub_cons 0 rfl (sub_cons 0 rfl (sub_tail (sub_tail (sub_self)))))), H⟩
          · rw [if_neg h2948] at H
            refine EW.exit (id := 2) (by kernel_rfl) ?_
            refine EQ.exitCode ?_
            refine EQ.exitTo ?_
            refine EQ.exitHere ?_
            refine EQ.to ?_
            refine EQ.keep [2, 7, 8, 9] [(2, .int .u8 a6), (7, .pointer (some ⟨g1636, 0, none⟩)), (8, .pointer (some ⟨g1648, 0, none⟩)), (9, .int .i64 (IntKind.i64.wrap ((IntKind.i64.wrap (Int.tmod a4 10)) + 1)))] (by kernel_rfl) ?_
            exact fun a ha => ⟨x2839, A2840, C2841, ha, (hS.re [4, 4, 4, 4, 4] [] rfl (sub_cons 0 rfl (sub_cons 0 rfl (sub_tail (sub_tail (sub_self)))))), H⟩
      · obtain ⟨x2731, A2732, C2733, ha, hS, H⟩ := hI
        rw [hj2734] at H
        (try dsimp only at H)
        refine EW.at ?_ a ha
        clear ha a
        refine EW.seq (x := Cd6.r.r.r.r.r.r.r.l) (y := Cd6.r.r.r.r.r.r.r.r) (by kernel_rfl) ?_
        refine EW.region (id := 19) (ops := Cd6.r.r.r.r.r.r.r.l.ops) (by kernel_rfl) ?_
        refine EL.quick 3 [7, 8, 9, 86, 87] [(7, .pointer (some ⟨g1636, 0, none⟩)), (8, .pointer (some ⟨g1648, 0, none⟩)), (9, .int .i64 (IntKind.i64.wrap ((IntKind.i64.wrap (Int.tmod a4 10)) + 1))), (86, .int .i64 (IntKind.i64.wrap a6)), (87, .int .i64 (IntKind.i64.wrap ((IntKind.i64.wrap (Int.tmod a4 10)) + 1)))] (by kernel_rfl) ?_
        obtain ⟨h3045, H⟩ := ite_out H
        refine EL.of (EO.Y (YO.div .rem .i64 (IntKind.i64.wrap a6) (IntKind.i64.wrap ((IntKind.i64.wrap (Int.tmod a4 10)) + 1)) (Int.tmod (IntKind.i64.wrap a6) (IntKind.i64.wrap ((IntKind.i64.wrap (Int.tmod a4 10)) + 1))) 88 (by kernel_rfl) (by kernel_rfl) (by kernel_rfl) h3045 (by first | exact .inl ⟨rfl, rfl⟩ | exact .inr ⟨rfl, rfl⟩)) ?_)
        refine EL.quick 1 [7, 8, 9, 17] [(7, .pointer (some ⟨g1636, 0, none⟩)), (8, .pointer (some ⟨g1648, 0, none⟩)), (9, .int .i64 (IntKind.i64.wrap ((IntKind.i64.wrap (Int.tmod a4 10)) + 1))), (17, .int .i64 (Int.tmod (IntKind.i64.wrap a6) (IntKind.i64.wrap ((IntKind.i64.wrap (Int.tmod a4 10)) + 1))))] (by kernel_rfl) ?_
        obtain ⟨y3046, hy3046, H⟩ := lt_out H
        refine EL.keep [7, 8, 9, 17] [(7, .pointer (some ⟨g1636, 0, none⟩)), (8, .pointer (some ⟨g1648, 0, none⟩)), (9, .int .i64 (IntKind.i64.wrap ((IntKind.i64.wrap (Int.tmod a4 10)) + 1))), (17, .int .i64 (Int.tmod (IntKind.i64.wrap a6) (IntKind.i64.wrap ((IntKind.i64.wrap (Int.tmod a4 10)) + 1))))] (by kernel_rfl) ?_
        refine EL.as' [(7, .pointer (some ⟨g1636, 0, none⟩)), (8, .pointer (some ⟨g1648, 0, none⟩)), (9, .int .i64 (IntKind.i64.wrap ((IntKind.i64.wrap (Int.tmod a4 10)) + 1))), (17, .int .i64 y3046)] (by subst hy3046; rfl) ?_
        refine EL.done (by kernel_rfl) ?_
        refine EQ.code ?_
        refine EW.seq (x := Cd6.r.r.r.r.r.r.r.r.l) (y := Cd6.r.r.r.r.r.r.r.r.r) (by kernel_rfl) ?_
        refine EW.region (id := 20) (ops := Cd6.r.r.r.r.r.r.r.r.l.ops) (by kernel_rfl) ?_
        refine EL.quick 3 [7, 8, 9, 17, 89, 91] [(7, .pointer (some ⟨g1636, 0, none⟩)), (8, .pointer (some ⟨g1648, 0, none⟩)), (9, .int .i64 (IntKind.i64.wrap ((IntKind.i64.wrap (Int.tmod a4 10)) + 1))), (17, .int .i64 y3046), (89, .pointer (some ⟨g1636, 0, none⟩)), (91, .int .i32 (IntKind.i32.wrap y3046))] (by kernel_rfl) ?_
        have hS : St B _ (Ass.box 91 g1636 [.slice A1960 x1959.length C1961, .slice A1639 t1635.length C1640] :: Ass.deep 94 96 kS96 A1960 C1961 x1959 :: Ass.own 3 (Kd.int .i64) A1639 C1640 t1635 :: Ass.box 93 g1648 [.slice A2732 x2731.length C2733] :: Ass.own 60 kS60 A2732 C2733 x2731 :: os) (Ro.sl (Kd.int .i64) (some ⟨g1632, 0, none⟩) 1 l1633 :: Ro.sl (Kd.int .i64) (some ⟨g1632, 0, none⟩) 1 l1633 :: rs) := hS.re [3, 3, 3] [] rfl sub_self
        obtain ⟨t3052, t3053, hc3056, H⟩ := b2_out H
        refine EL.of (EO.callD 23 [.pointer (some ⟨g1636, 0, none⟩), .int .i32 (IntKind.i32.wrap y3046), .int .i64 5] _ 92 (by kernel_rfl) (by kernel_rfl) (by kernel_rfl) (future_Futures_Break.calls hc3056 hS) ?_)
        rintro v w ⟨A3054, C3055, rfl, hS⟩
        refine EL.done (by kernel_rfl) ?_
        refine EQ.code ?_
        refine EW.seq (x := Cd6.r.r.r.r.r.r.r.r.r.l) (y := Cd6.r.r.r.r.r.r.r.r.r.r) (by kernel_rfl) ?_
        refine EW.region (id := 21) (ops := Cd6.r.r.r.r.r.r.r.r.r.l.ops) (by kernel_rfl) ?_
        refine EL.quick 2 [8, 9, 17, 94, 95] [(8, .pointer (some ⟨g1648, 0, none⟩)), (9, .int .i64 (IntKind.i64.wrap ((IntKind.i64.wrap (Int.tmod a4 10)) + 1))), (17, .int .i64 y3046), (94, .pointer (some ⟨g1648, 0, none⟩)), (95, .pointer (some ⟨g1636, 0, none⟩))] (by kernel_rfl) ?_
        have hS : St B _ (Ass.box 93 g1648 [.slice A2732 x2731.length C2733] :: Ass.own 60 kS60 A2732 C2733 x2731 :: Ass.box 91 g1636 [.slice A3054 t3052.length C3055, .slice A1639 t1635.length C1640] :: Ass.deep 94 96 kS96 A3054 C3055 t3052 :: Ass.own 3 (Kd.int .i64) A1639 C1640 t1635 :: os) (Ro.sl (Kd.int .i64) (some ⟨g1632, 0, none⟩) 1 l1633 :: Ro.sl (Kd.int .i64) (some ⟨g1632, 0, none⟩) 1 l1633 :: rs) := hS.re [2, 2, 2, 4, 4] [] rfl sub_self
        obtain ⟨t3068, t3069, t3070, t3071, hc3078, H⟩ := b4_out H
        refine EL.of (EO.callD 16 [.pointer (some ⟨g1648, 0, none⟩), .pointer (some ⟨g1636, 0, none⟩), .int .i64 100] _ 96 (by kernel_rfl) (by kernel_rfl) (by kernel_rfl) (park_Park_Look.calls hc3078 hS) ?_)
        rintro v w ⟨A3072, C3073, A3074, C3075, A3076, C3077, rfl, hS⟩
        refine EL.quick 7 [8, 9, 17, 18, 19] [(8, .pointer (some ⟨g1648, 0, none⟩)), (9, .int .i64 (IntKind.i64.wrap ((IntKind.i64.wrap (Int.tmod a4 10)) + 1))), (17, .int .i64 y3046), (18, .slice A3074 t3069.length C3075), (19, .slice A3076 t3070.length C3077)] (by kernel_rfl) ?_
        refine EL.done (by kernel_rfl) ?_
        refine EQ.code ?_
        refine EW.seq (x := Cd6.r.r.r.r.r.r.r.r.r.r.l) (y := Cd6.r.r.r.r.r.r.r.r.r.r.r) (by kernel_rfl) ?_
        refine EW.region (id := 22) (ops := Cd6.r.r.r.r.r.r.r.r.r.r.l.ops) (by kernel_rfl) ?_
        refine EL.quick 1 [9, 17, 18, 19, 100] [(9, .int .i64 (IntKind.i64.wrap ((IntKind.i64.wrap (Int.tmod a4 10)) + 1))), (17, .int .i64 y3046), (18, .slice A3074 t3069.length C3075), (19, .slice A3076 t3070.length C3077), (100, .pointer (some ⟨g1648, 0, none⟩))] (by kernel_rfl) ?_
        have hS : St B _ (Ass.box 93 g1648 [.slice A3072 t3068.length C3073] :: Ass.own 60 kS60 A3072 C3073 t3068 :: Ass.own 60 kS60 A2732 C2733 x2731 :: Ass.box 91 g1636 [.slice A3054 t3052.length C3055, .slice A1639 t1635.length C1640] :: Ass.deep 94 96 kS96 A3054 C3055 t3052 :: Ass.own 3 (Kd.int .i64) A1639 C1640 t1635 :: Ass.own 36 kS36 A3074 C3075 t3069 :: Ass.own 36 kS36 A3076 C3077 t3070 :: os) (Ro.sl (Kd.int .i64) (some ⟨g1632, 0, none⟩) 1 l1633 :: Ro.sl (Kd.int .i64) (some ⟨g1632, 0, none⟩) 1 l1633 :: rs) := hS.re [5, 1] [] rfl sub_self
        obtain ⟨t3083, hc3086, H⟩ := b1_out H
        refine EL.of (EO.callD 25 [.pointer (some ⟨g1648, 0, none⟩)] _ 101 (by kernel_rfl) (by kernel_rfl) (by kernel_rfl) (park_Park_All.calls hc3086 hS) ?_)
        rintro v w ⟨A3084, C3085, rfl, hS⟩
        refine EL.quick 1 [9, 17, 18, 19, 21] [(9, .int .i64 (IntKind.i64.wrap ((IntKind.i64.wrap (Int.tmod a4 10)) + 1))), (17, .int .i64 y3046), (18, .slice A3074 t3069.length C3075), (19, .slice A3076 t3070.length C3077), (21, .slice A3084 t3083.length C3085)] (by kernel_rfl) ?_
        refine EL.done (by kernel_rfl) ?_
        refine EQ.code ?_
        refine EW.seq (x := Cd6.r.r.r.r.r.r.r.r.r.r.r.l) (y := Cd6.r.r.r.r.r.r.r.r.r.r.r.r) (by kernel_rfl) ?_
        obtain ⟨j3123, hj3123, H⟩ := lt_out H
        refine EW.cut (x := Cd6.r.r.r.r.r.r.r.r.r.r.r.l.l) (y := Cd6.r.r.r.r.r.r.r.r.r.r.r.l.r) (fun a w => ∃ x3122 : Bool, Sat 147 [(17, .int .i64 y3046), (21, .slice A3084 t3083.length C3085), (125, .bool (x3122))] a ∧ St B w (Ass.box 93 g1648 [.slice A3072 t3068.length C3073] :: Ass.own 60 kS60 A3072 C3073 t3068 :: Ass.own 60 kS60 A3084 C3085 t3083 :: Ass.own 60 kS60 A2732 C2733 x2731 :: Ass.box 91 g1636 [.slice A3054 t3052.length C3055, .slice A1639 t1635.length C1640] :: Ass.deep 94 96 kS96 A3054 C3055 t3052 :: Ass.own 3 (Kd.int .i64) A1639 C1640 t1635 :: Ass.own 36 kS36 A3074 C3075 t3069 :: Ass.own 36 kS36 A3076 C3077 t3070 :: os) (Ro.sl (Kd.int .i64) (some ⟨g1632, 0, none⟩) 1 l1633 :: Ro.sl (Kd.int .i64) (some ⟨g1632, 0, none⟩) 1 l1633 :: rs) ∧ j3123 x3122 = some x1611) (by kernel_rfl) ?_ (fun a w hI => ?_)
        · refine EW.region (id := 23) (ops := Cd6.r.r.r.r.r.r.r.r.r.r.r.l.l.ops) (by kernel_rfl) ?_
          refine EL.quick 4 [9, 17, 18, 19, 21, 105] [(9, .int .i64 (IntKind.i64.wrap ((IntKind.i64.wrap (Int.tmod a4 10)) + 1))), (17, .int .i64 y3046), (18, .slice A3074 t3069.length C3075), (19, .slice A3076 t3070.length C3077), (21, .slice A3084 t3083.length C3085), (105, .bool (!(decide ((t3069.length : Int) = 1))))] (by kernel_rfl) ?_
          by_cases h3124 : (t3069.length : Int) = 1
          · rw [if_pos h3124] at H
            refine EL.keep [9, 17, 18, 19, 21, 105] [(9, .int .i64 (IntKind.i64.wrap ((IntKind.i64.wrap (Int.tmod a4 10)) + 1))), (17, .int .i64 y3046), (18, .slice A3074 t3069.length C3075), (19, .slice A3076 t3070.length C3077), (21, .slice A3084 t3083.length C3085), (105, .bool (!(decide ((t3069.length : Int) = 1))))] (by kernel_rfl) ?_
            refine EL.as' [(9, .int .i64 (IntKind.i64.wrap ((IntKind.i64.wrap (Int.tmod a4 10)) + 1))), (17, .int .i64 y3046), (18, .slice A3074 t3069.length C3075), (19, .slice A3076 t3070.length C3077), (21, .slice A3084 t3083.length C3085), (105, .bool (false))] (by simp only [dec_t h3124, Bool.not_true, Bool.not_false]) ?_
            refine EL.quick 1 [9, 17, 19, 21, 105, 106] [(9, .int .i64 (IntKind.i64.wrap ((IntKind.i64.wrap (Int.tmod a4 10)) + 1))), (17, .int .i64 y3046), (19, .slice A3076 t3070.length C3077), (21, .slice A3084 t3083.length C3085), (105, .bool (false)), (106, .slice A3074 t3069.length C3075)] (by kernel_rfl) ?_
            obtain ⟨h3125, H⟩ := ite_in H
            obtain ⟨ad3126, rfl⟩ := St.rd_some hS (Rd.own 7 36 rfl) (by decide) h3125
            refine EL.of (EO.Y (YO.idx 37 12 ad3126 t3069.length C3075 .i64 0 107 (by kernel_rfl) (by kernel_rfl) (by kernel_rfl) (by kernel_rfl) (by decide) h3125) ?_)
            refine EL.quick 1 [9, 17, 19, 21, 105, 108] [(9, .int .i64 (IntKind.i64.wrap ((IntKind.i64.wrap (Int.tmod a4 10)) + 1))), (17, .int .i64 y3046), (19, .slice A3076 t3070.length C3077), (21, .slice A3084 t3083.length C3085), (105, .bool (false)), (108, .pointer (some ((ad3126.add ((0 : Int).toNat * 12)).add 0)))] (by kernel_rfl) ?_
            refine EL.of (EO.loadPt hS kS36 ad3126 C3075 t3069 (Rd.own 7 36 rfl) zS36 cellsS36 factsS36 partsS36 0 (by decide) h3125 21 12 0 1 rfl (fun b3127 => .int .i32 ((t3069.getD (0 : Int).toNat zS36).f0)) 109 (by kernel_rfl) (by kernel_rfl) (by kernel_rfl) (fun b3127 => (by kernel_rfl)) ?_)
            intro b3127 hS
            refine EL.quick 5 [9, 17, 19, 21, 114] [(9, .int .i64 (IntKind.i64.wrap ((IntKind.i64.wrap (Int.tmod a4 10)) + 1))), (17, .int .i64 y3046), (19, .slice A3076 t3070.length C3077), (21, .slice A3084 t3083.length C3085), (114, .bool (!(decide ((IntKind.i64.wrap ((t3069.getD (0 : Int).toNat zS36).f0)) = y3046))))] (by kernel_rfl) ?_
            by_cases h3128 : (IntKind.i64.wrap ((t3069.getD (0 : Int).toNat zS36).f0)) = y3046
            · rw [if_pos h3128] at H
              refine EL.keep [9, 17, 19, 21, 114] [(9, .int .i64 (IntKind.i64.wrap ((IntKind.i64.wrap (Int.tmod a4 10)) + 1))), (17, .int .i64 y3046), (19, .slice A3076 t3070.length C3077), (21, .slice A3084 t3083.length C3085), (114, .bool (!(decide ((IntKind.i64.wrap ((t3069.getD (0 : Int).toNat zS36).f0)) = y3046))))] (by kernel_rfl) ?_
              refine EL.as' [(9, .int .i64 (IntKind.i64.wrap ((IntKind.i64.wrap (Int.tmod a4 10)) + 1))), (17, .int .i64 y3046), (19, .slice A3076 t3070.length C3077), (21, .slice A3084 t3083.length C3085), (114, .bool (false))] (by simp only [dec_t h3128, Bool.not_true, Bool.not_false]) ?_
              refine EL.quick 5 [9, 17, 21, 119] [(9, .int .i64 (IntKind.i64.wrap ((IntKind.i64.wrap (Int.tmod a4 10)) + 1))), (17, .int .i64 y3046), (21, .slice A3084 t3083.length C3085), (119, .bool (!(decide ((t3070.length : Int) = 0))))] (by kernel_rfl) ?_
              by_cases h3129 : (t3070.length : Int) = 0
              · rw [if_pos h3129] at H
                refine EL.keep [9, 17, 21, 119] [(9, .int .i64 (IntKind.i64.wrap ((IntKind.i64.wrap (Int.tmod a4 10)) + 1))), (17, .int .i64 y3046), (21, .slice A3084 t3083.length C3085), (119, .bool (!(decide ((t3070.length : Int) = 0))))] (by kernel_rfl) ?_
                refine EL.as' [(9, .int .i64 (IntKind.i64.wrap ((IntKind.i64.wrap (Int.tmod a4 10)) + 1))), (17, .int .i64 y3046), (21, .slice A3084 t3083.length C3085), (119, .bool (false))] (by simp only [dec_t h3129, Bool.not_true, Bool.not_false]) ?_
                refine EL.quick 6 [17, 21, 125] [(17, .int .i64 y3046), (21, .slice A3084 t3083.length C3085), (125, .bool (!(decide ((t3083.length : Int) = (IntKind.i64.wrap ((IntKind.i64.wrap ((IntKind.i64.wrap (Int.tmod a4 10)) + 1)) - 1))))))] (by kernel_rfl) ?_
                refine EL.done (by kernel_rfl) ?_
                refine EQ.to ?_
                refine EQ.keep [17, 21, 125] [(17, .int .i64 y3046), (21, .slice A3084 t3083.length C3085), (125, .bool (!(decide ((t3083.length : Int) = (IntKind.i64.wrap ((IntKind.i64.wrap ((IntKind.i64.wrap (Int.tmod a4 10)) + 1)) - 1))))))] (by kernel_rfl) ?_
                exact fun a ha => ⟨!(decide ((t3083.length : Int) = (IntKind.i64.wrap ((IntKind.i64.wrap ((IntKind.i64.wrap (Int.tmod a4 10)) + 1)) - 1)))), ha, (hS.re [8, 8, 8, 8, 8, 8, 8, 8, 8] [] rfl (sub_cons 1 rfl (sub_cons 1 rfl (sub_tail (sub_tail (sub_tail (sub_self))))))), H⟩
              · rw [if_neg h3129] at H
                refine EL.keep [9, 17, 21, 119] [(9, .int .i64 (IntKind.i64.wrap ((IntKind.i64.wrap (Int.tmod a4 10)) + 1))), (17, .int .i64 y3046), (21, .slice A3084 t3083.length C3085), (119, .bool (!(decide ((t3070.length : Int) = 0))))] (by kernel_rfl) ?_
                refine EL.as' [(9, .int .i64 (IntKind.i64.wrap ((IntKind.i64.wrap (Int.tmod a4 10)) + 1))), (17, .int .i64 y3046), (21, .slice A3084 t3083.length C3085), (119, .bool (true))] (by simp only [dec_f h3129, Bool.not_true, Bool.not_false]) ?_
                refine EL.quick 6 [17, 21, 125] [(17, .int .i64 y3046), (21, .slice A3084 t3083.length C3085), (125, .bool (true))] (by kernel_rfl) ?_
                refine EL.done (by kernel_rfl) ?_
                refine EQ.to ?_
                refine EQ.keep [17, 21, 125] [(17, .int .i64 y3046), (21, .slice A3084 t3083.length C3085), (125, .bool (true))] (by kernel_rfl) ?_
                exact fun a ha => ⟨true, ha, (hS.re [8, 8, 8, 8, 8, 8, 8, 8, 8] [] rfl (sub_cons 1 rfl (sub_cons 1 rfl (sub_tail (sub_tail (sub_tail (sub_self))))))), H⟩
            · rw [if_neg h3128] at H
              refine EL.keep [9, 17, 19, 21, 114] [(9, .int .i64 (IntKind.i64.wrap ((IntKind.i64.wrap (Int.tmod a4 10)) + 1))), (17, .int .i64 y3046), (19, .slice A3076 t3070.length C3077), (21, .slice A3084 t3083.length C3085), (114, .bool (!(decide ((IntKind.i64.wrap ((t3069.getD (0 : Int).toNat zS36).f0)) = y3046))))] (by kernel_rfl) ?_
              refine EL.as' [(9, .int .i64 (IntKind.i64.wrap ((IntKind.i64.wrap (Int.tmod a4 10)) + 1))), (17, .int .i64 y3046), (19, .slice A3076 t3070.length C3077), (21, .slice A3084 t3083.length C3085), (114, .bool (true))] (by simp only [dec_f h3128, Bool.not_true, Bool.not_false]) ?_
              refine EL.quick 11 [17, 21, 125] [(17, .int .i64 y3046), (21, .slice A3084 t3083.length C3085), (125, .bool (true))] (by kernel_rfl) ?_
              refine EL.done (by kernel_rfl) ?_
              refine EQ.to ?_
              refine EQ.keep [17, 21, 125] [(17, .int .i64 y3046), (21, .slice A3084 t3083.length C3085), (125, .bool (true))] (by kernel_rfl) ?_
              exact fun a ha => ⟨true, ha, (hS.re [8, 8, 8, 8, 8, 8, 8, 8, 8] [] rfl (sub_cons 1 rfl (sub_cons 1 rfl (sub_tail (sub_tail (sub_tail (sub_self))))))), H⟩
          · rw [if_neg h3124] at H
            refine EL.keep [9, 17, 18, 19, 21, 105] [(9, .int .i64 (IntKind.i64.wrap ((IntKind.i64.wrap (Int.tmod a4 10)) + 1))), (17, .int .i64 y3046), (18, .slice A3074 t3069.length C3075), (19, .slice A3076 t3070.length C3077), (21, .slice A3084 t3083.length C3085), (105, .bool (!(decide ((t3069.length : Int) = 1))))] (by kernel_rfl) ?_
            refine EL.as' [(9, .int .i64 (IntKind.i64.wrap ((IntKind.i64.wrap (Int.tmod a4 10)) + 1))), (17, .int .i64 y3046), (18, .slice A3074 t3069.length C3075), (19, .slice A3076 t3070.length C3077), (21, .slice A3084 t3083.length C3085), (105, .bool (true))] (by simp only [dec_f h3124, Bool.not_true, Bool.not_false]) ?_
            refine EL.quick 20 [17, 21, 125] [(17, .int .i64 y3046), (21, .slice A3084 t3083.length C3085), (125, .bool (true))] (by kernel_rfl) ?_
            refine EL.done (by kernel_rfl) ?_
            refine EQ.to ?_
            refine EQ.keep [17, 21, 125] [(17, .int .i64 y3046), (21, .slice A3084 t3083.length C3085), (125, .bool (true))] (by kernel_rfl) ?_
            exact fun a ha => ⟨true, ha, (hS.re [8, 8, 8, 8, 8, 8, 8, 8, 8] [] rfl (sub_cons 0 rfl (sub_cons 0 rfl (sub_tail (sub_tail (sub_self)))))), H⟩
        · obtain ⟨x3122, ha, hS, H⟩ := hI
          rw [hj3123] at H
          (try dsimp only at H)
          refine EW.at ?_ a ha
          clear ha a
          refine EW.condP' (o := (.tmp 125)) (x := Cd6.r.r.r.r.r.r.r.r.r.r.r.l.r.l) (y := Cd6.r.r.r.r.r.r.r.r.r.r.r.l.r.r) (x3122) (by kernel_rfl) (by kernel_rfl) (fun h3130 => ?_) (fun h3130 => ?_)
          · rw [if_pos h3130] at H
            refine EW.seq (x := Cd6.r.r.r.r.r.r.r.r.r.r.r.l.r.l.l) (y := Cd6.r.r.r.r.r.r.r.r.r.r.r.l.r.l.r) (by kernel_rfl) ?_
            refine EW.region (id := 24) (ops := Cd6.r.r.r.r.r.r.r.r.r.r.r.l.r.l.l.ops) (by kernel_rfl) ?_
            refine EL.quick 1 [6] [(6, .bool (false))] (by kernel_rfl) ?_
            refine EL.done (by kernel_rfl) ?_
            refine EQ.code ?_
            refine EW.ret (by kernel_rfl) ?_
            refine EQ.ret ?_
            obtain rfl := Option.some.inj H
            exact EQ.leave (.bool (false)) (by kernel_rfl) ⟨_, rfl, rfl, (hS.re [] [0, 0, 0, 0, 0, 0, 0, 0, 0] rfl (sub_tail (sub_tail (sub_self))))⟩
          · rw [if_neg h3130] at H
            refine EW.skip (by kernel_rfl) ?_
            refine EQ.code ?_
            refine EW.seq (x := Cd6.r.r.r.r.r.r.r.r.r.r.r.r.l) (y := Cd6.r.r.r.r.r.r.r.r.r.r.r.r.r) (by kernel_rfl) ?_
            refine EW.seq (x := Cd6.r.r.r.r.r.r.r.r.r.r.r.r.l.l) (y := Cd6.r.r.r.r.r.r.r.r.r.r.r.r.l.r) (by kernel_rfl) ?_
            refine EW.region (id := 25) (ops := Cd6.r.r.r.r.r.r.r.r.r.r.r.r.l.l.ops) (by kernel_rfl) ?_
            refine EL.quick 1 [17, 21, 22] [(17, .int .i64 y3046), (21, .slice A3084 t3083.length C3085), (22, .int .i64 0)] (by kernel_rfl) ?_
            refine EL.done (by kernel_rfl) ?_
            refine EQ.code ?_
            refine EW.block (x := Cd6.r.r.r.r.r.r.r.r.r.r.r.r.l.r.l) (id := 4) (by kernel_rfl) ?_
            refine EW.loop (x := Cd6.r.r.r.r.r.r.r.r.r.r.r.r.l.r.l.l) (fun n a w => ∃ x3157 : Int, Sat 147 [(17, .int .i64 y3046), (21, .slice A3084 t3083.length C3085), (22, .int .i64 x3157)] a ∧ St B w (Ass.box 93 g1648 [.slice A3072 t3068.length C3073] :: Ass.own 60 kS60 A3072 C3073 t3068 :: Ass.own 60 kS60 A3084 C3085 t3083 :: Ass.own 60 kS60 A2732 C2733 x2731 :: Ass.box 91 g1636 [.slice A3054 t3052.length C3055, .slice A1639 t1635.length C1640] :: Ass.deep 94 96 kS96 A3054 C3055 t3052 :: Ass.own 3 (Kd.int .i64) A1639 C1640 t1635 :: Ass.own 36 kS36 A3074 C3075 t3069 :: Ass.own 36 kS36 A3076 C3077 t3070 :: os) (Ro.sl (Kd.int .i64) (some ⟨g1632, 0, none⟩) 1 l1633 :: Ro.sl (Kd.int .i64) (some ⟨g1632, 0, none⟩) 1 l1633 :: rs) ∧ confidantlaw20_ParkStays.l2 K t3083 y3046 n x3157 = some x1611) K (by kernel_rfl) ?_ (fun n a w hI => ?_)
            · refine EQ.keep [17, 21, 22] [(17, .int .i64 y3046), (21, .slice A3084 t3083.length C3085), (22, .int .i64 0)] (by kernel_rfl) ?_
              exact fun a ha => ⟨0, ha, (hS.re [8, 8, 8, 8, 8, 8, 8, 8, 8] [] rfl (sub_cons 0 rfl (sub_cons 0 rfl (sub_tail (sub_tail (sub_self)))))), H⟩
            · obtain ⟨x3157, ha, hS, H⟩ := hI
              obtain _ | n := n
              · simp [confidantlaw20_ParkStays.l2] at H
              rw [confidantlaw20_ParkStays.l2.eq_2] at H
              refine EW.at ?_ a ha
              clear ha a
              refine EW.seq (x := Cd6.r.r.r.r.r.r.r.r.r.r.r.r.l.r.l.l.l) (y := Cd6.r.r.r.r.r.r.r.r.r.r.r.r.l.r.l.l.r) (by kernel_rfl) ?_
              refine EW.seq (x := Cd6.r.r.r.r.r.r.r.r.r.r.r.r.l.r.l.l.l.l) (y := Cd6.r.r.r.r.r.r.r.r.r.r.r.r.l.r.l.l.l.r) (by kernel_rfl) ?_
              refine EW.region (id := 26) (ops := Cd6.r.r.r.r.r.r.r.r.r.r.r.r.l.r.l.l.l.l.ops) (by kernel_rfl) ?_
              refine EL.quick 4 [17, 21, 22, 129] [(17, .int .i64 y3046), (21, .slice A3084 t3083.length C3085), (22, .int .i64 x3157), (129, .bool (decide (x3157 < (t3083.length : Int))))] (by kernel_rfl) ?_
              refine EL.done (by kernel_rfl) ?_
              refine EQ.code ?_
              refine EW.condP (o := (.tmp 129)) (x := Cd6.r.r.r.r.r.r.r.r.r.r.r.r.l.r.l.l.l.r.l) (y := Cd6.r.r.r.r.r.r.r.r.r.r.r.r.l.r.l.l.l.r.r) (x3157 < (t3083.length : Int)) (by kernel_rfl) (by kernel_rfl) (fun h3189 => ?_) (fun h3189 => ?_)
              · rw [if_pos h3189] at H
                refine EW.skip (by kernel_rfl) ?_
                refine EQ.code ?_
                refine EW.seq (x := Cd6.r.r.r.r.r.r.r.r.r.r.r.r.l.r.l.l.r.l) (y := Cd6.r.r.r.r.r.r.r.r.r.r.r.r.l.r.l.l.r.r) (by kernel_rfl) ?_
                refine EW.block (x := Cd6.r.r.r.r.r.r.r.r.r.r.r.r.l.r.l.l.r.l.l) (id := 5) (by kernel_rfl) ?_
                refine EW.seq (x := Cd6.r.r.r.r.r.r.r.r.r.r.r.r.l.r.l.l.r.l.l.l) (y := Cd6.r.r.r.r.r.r.r.r.r.r.r.r.l.r.l.l.r.l.l.r) (by kernel_rfl) ?_
                refine EW.region (id := 28) (ops := Cd6.r.r.r.r.r.r.r.r.r.r.r.r.l.r.l.l.r.l.l.l.ops) (by kernel_rfl) ?_
                refine EL.quick 2 [17, 21, 22, 23] [(17, .int .i64 y3046), (21, .slice A3084 t3083.length C3085), (22, .int .i64 x3157), (23, .int .i64 x3157)] (by kernel_rfl) ?_
                refine EL.done (by kernel_rfl) ?_
                refine EQ.code ?_
                obtain ⟨j3207, hj3207, H⟩ := lt_out H
                refine EW.cut (x := Cd6.r.r.r.r.r.r.r.r.r.r.r.r.l.r.l.l.r.l.l.r.l) (y := Cd6.r.r.r.r.r.r.r.r.r.r.r.r.l.r.l.l.r.l.l.r.r) (fun a w => ∃ x3206 : Int, Sat 147 [(17, .int .i64 y3046), (21, .slice A3084 t3083.length C3085), (22, .int .i64 x3157), (23, .int .i64 x3206)] a ∧ St B w (Ass.box 93 g1648 [.slice A3072 t3068.length C3073] :: Ass.own 60 kS60 A3072 C3073 t3068 :: Ass.own 60 kS60 A3084 C3085 t3083 :: Ass.own 60 kS60 A2732 C2733 x2731 :: Ass.box 91 g1636 [.slice A3054 t3052.length C3055, .slice A1639 t1635.length C1640] :: Ass.deep 94 96 kS96 A3054 C3055 t3052 :: Ass.own 3 (Kd.int .i64) A1639 C1640 t1635 :: Ass.own 36 kS36 A3074 C3075 t3069 :: Ass.own 36 kS36 A3076 C3077 t3070 :: os) (Ro.sl (Kd.int .i64) (some ⟨g1632, 0, none⟩) 1 l1633 :: Ro.sl (Kd.int .i64) (some ⟨g1632, 0, none⟩) 1 l1633 :: rs) ∧ j3207 x3206 = some x1611) (by kernel_rfl) ?_ (fun a w hI => ?_)
                · refine EW.seq (x := Cd6.r.r.r.r.r.r.r.r.r.r.r.r.l.r.l.l.r.l.l.r.l.l) (y := Cd6.r.r.r.r.r.r.r.r.r.r.r.r.l.r.l.l.r.l.l.r.l.r) (by kernel_rfl) ?_
                  refine EW.region (id := 29) (ops := Cd6.r.r.r.r.r.r.r.r.r.r.r.r.l.r.l.l.r.l.l.r.l.l.ops) (by kernel_rfl) ?_
                  refine EL.quick 3 [17, 21, 22, 23, 135] [(17, .int .i64 y3046), (21, .slice A3084 t3083.length C3085), (22, .int .i64 x3157), (23, .int .i64 x3157), (135, .bool (decide (x3157 ≥ y3046)))] (by kernel_rfl) ?_
                  refine EL.done (by kernel_rfl) ?_
                  refine EQ.code ?_
                  refine EW.condP (o := (.tmp 135)) (x := Cd6.r.r.r.r.r.r.r.r.r.r.r.r.l.r.l.l.r.l.l.r.l.r.l) (y := Cd6.r.r.r.r.r.r.r.r.r.r.r.r.l.r.l.l.r.l.l.r.l.r.r) (x3157 ≥ y3046) (by kernel_rfl) (by kernel_rfl) (fun h3208 => ?_) (fun h3208 => ?_)
                  · rw [if_pos h3208] at H
                    refine EW.region (id := 30) (ops := Cd6.r.r.r.r.r.r.r.r.r.r.r.r.l.r.l.l.r.l.l.r.l.r.l.ops) (by kernel_rfl) ?_
                    refine EL.quick 3 [17, 21, 22, 23] [(17, .int .i64 y3046), (21, .slice A3084 t3083.length C3085), (22, .int .i64 x3157), (23, .int .i64 (IntKind.i64.wrap (x3157 + 1)))] (by kernel_rfl) ?_
                    refine EL.done (by kernel_rfl) ?_
                    refine EQ.to ?_
                    refine EQ.keep [17, 21, 22, 23] [(17, .int .i64 y3046), (21, .slice A3084 t3083.length C3085), (22, .int .i64 x3157), (23, .int .i64 (IntKind.i64.wrap (x3157 + 1)))] (by kernel_rfl) ?_
                    exact fun a ha => ⟨IntKind.i64.wrap (x3157 + 1), ha, (hS.re [8, 8, 8, 8, 8, 8, 8, 8, 8] [] rfl (sub_cons 0 rfl (sub_cons 0 rfl (sub_tail (sub_tail (sub_self)))))), H⟩
                  · rw [if_neg h3208] at H
                    refine EW.skip (by kernel_rfl) ?_
                    refine EQ.to ?_
                    refine EQ.keep [17, 21, 22, 23] [(17, .int .i64 y3046), (21, .slice A3084 t3083.length C3085), (22, .int .i64 x3157), (23, .int .i64 x3157)] (by kernel_rfl) ?_
                    exact fun a ha => ⟨x3157, ha, (hS.re [8, 8, 8, 8, 8, 8, 8, 8, 8] [] rfl (sub_cons 0 rfl (sub_cons 0 rfl (sub_tail (sub_tail (sub_self)))))), H⟩
                · obtain ⟨x3206, ha, hS, H⟩ := hI
                  rw [hj3207] at H
                  (try dsimp only at H)
                  refine EW.at ?_ a ha
                  clear ha a
                  refine EW.seq (x := Cd6.r.r.r.r.r.r.r.r.r.r.r.r.l.r.l.l.r.l.l.r.r.l) (y := Cd6.r.r.r.r.r.r.r.r.r.r.r.r.l.r.l.l.r.l.l.r.r.r) (by kernel_rfl) ?_
                  refine EW.region (id := 31) (ops := Cd6.r.r.r.r.r.r.r.r.r.r.r.r.l.r.l.l.r.l.l.r.r.l.ops) (by kernel_rfl) ?_
                  refine EL.quick 2 [17, 21, 22, 23, 138, 139] [(17, .int .i64 y3046), (21, .slice A3084 t3083.length C3085), (22, .int .i64 x3157), (23, .int .i64 x3206), (138, .slice A3084 t3083.length C3085), (139, .int .i64 x3157)] (by kernel_rfl) ?_
                  obtain ⟨h3212, H⟩ := ite_in H
                  obtain ⟨ad3213, rfl⟩ := St.rd_some hS (Rd.own 2 60 rfl) h3212 h3189
                  refine EL.of (EO.Y (YO.idx 58 13 ad3213 t3083.length C3085 .i64 x3157 140 (by kernel_rfl) (by kernel_rfl) (by kernel_rfl) (by kernel_rfl) h3212 h3189) ?_)
                  refine EL.quick 2 [17, 21, 22, 23, 142] [(17, .int .i64 y3046), (21, .slice (some ad3213) t3083.length C3085), (22, .int .i64 x3157), (23, .int .i64 x3206), (142, .pointer (some ((ad3213.add (x3157.toNat * 13)).add 0)))] (by kernel_rfl) ?_
                  refine EL.of (EO.loadPt hS kS60 ad3213 C3085 t3083 (Rd.own 2 60 rfl) zS60 cellsS60 factsS60 partsS60 x3157 h3212 h3189 21 13 0 1 rfl (fun b3214 => .int .i32 ((t3083.getD x3157.toNat zS60).f0.f0)) 143 (by kernel_rfl) (by kernel_rfl) (by kernel_rfl) (fun b3214 => (by kernel_rfl)) ?_)
                  intro b3214 hS
                  refine EL.quick 3 [17, 21, 22, 146] [(17, .int .i64 y3046), (21, .slice (some ad3213) t3083.length C3085), (22, .int .i64 x3157), (146, .bool (!(decide ((IntKind.i64.wrap ((t3083.getD x3157.toNat zS60).f0.f0)) = x3206))))] (by kernel_rfl) ?_
                  refine EL.done (by kernel_rfl) ?_
                  refine EQ.code ?_
                  refine EW.condQ (b := !(decide ((IntKind.i64.wrap ((t3083.getD x3157.toNat zS60).f0.f0)) = x3206))) (o := (.tmp 146)) (x := Cd6.r.r.r.r.r.r.r.r.r.r.r.r.l.r.l.l.r.l.l.r.r.r.l) (y := Cd6.r.r.r.r.r.r.r.r.r.r.r.r.l.r.l.l.r.l.l.r.r.r.r) ((IntKind.i64.wrap ((t3083.getD x3157.toNat zS60).f0.f0)) = x3206) (false) (by kernel_rfl) (by kernel_rfl) ⟨fun h => (by rw [decide_eq_true h] <;> rfl), fun h => (by rw [decide_eq_false h] <;> rfl)⟩ (fun h3215 => ?_) (fun h3215 => ?_)
                  · rw [if_pos h3215] at H
                    refine EW.skip (by kernel_rfl) ?_
                    refine EQ.pop ?_
                    refine EQ.code ?_
                    refine EW.region (id := 27) (ops := Cd6.r.r.r.r.r.r.r.r.r.r.r.r.l.r.l.l.r.r.ops) (by kernel_rfl) ?_
                    refine EL.quick 3 [17, 21, 22] [(17, .int .i64 y3046), (21, .slice (some ad3213) t3083.length C3085), (22, .int .i64 (IntKind.i64.wrap (x3157 + 1)))] (by kernel_rfl) ?_
                    refine EL.done (by kernel_rfl) ?_
                    refine EQ.to ?_
                    refine EQ.keep [17, 21, 22] [(17, .int .i64 y3046), (21, .slice (some ad3213) t3083.length C3085), (22, .int .i64 (IntKind.i64.wrap (x3157 + 1)))] (by kernel_rfl) ?_
                    exact fun a ha => ⟨n, Nat.lt_succ_self n, IntKind.i64.wrap (x3157 + 1), ha, (hS.re [8, 8, 8, 8, 8, 8, 8, 8, 8] [] rfl (sub_cons 1 rfl (sub_cons 1 rfl (sub_tail (sub_tail (sub_tail (sub_self))))))), H⟩
                  · rw [if_neg h3215] at H
                    refine EW.seq (x := Cd6.r.r.r.r.r.r.r.r.r.r.r.r.l.r.l.l.r.l.l.r.r.r.l.l) (y := Cd6.r.r.r.r.r.r.r.r.r.r.r.r.l.r.l.l.r.l.l.r.r.r.l.r) (by kernel_rfl) ?_
                    refine EW.region (id := 32) (ops := Cd6.r.r.r.r.r.r.r.r.r.r.r.r.l.r.l.l.r.l.l.r.r.r.l.l.ops) (by kernel_rfl) ?_
                    refine EL.quick 1 [6] [(6, .bool (false))] (by kernel_rfl) ?_
                    refine EL.done (by kernel_rfl) ?_
                    refine EQ.code ?_
                    refine EW.ret (by kernel_rfl) ?_
                    refine EQ.ret ?_
                    refine EQ.ret ?_
                    refine EQ.ret ?_
                    refine EQ.ret ?_
                    refine EQ.ret ?_
                    obtain rfl := Option.some.inj H
                    exact EQ.leave (.bool (false)) (by kernel_rfl) ⟨_, rfl, rfl, (hS.re [] [0, 0, 0, 0, 0, 0, 0, 0, 0] rfl (sub_tail (sub_tail (sub_tail (sub_self)))))⟩
              · rw [if_neg h3189] at H
                refine EW.exit (id := 4) (by kernel_rfl) ?_
                refine EQ.exitCode ?_
                refine EQ.exitTo ?_
                refine EQ.exitHere ?_
                refine EQ.code ?_
                refine EW.seq (x := Cd6.r.r.r.r.r.r.r.r.r.r.r.r.r.l) (y := Cd6.r.r.r.r.r.r.r.r.r.r.r.r.r.r) (by kernel_rfl) ?_
                refine EW.region (id := 33) (ops := Cd6.r.r.r.r.r.r.r.r.r.r.r.r.r.l.ops) (by kernel_rfl) ?_
                refine EL.quick 1 [6] [(6, .bool (true))] (by kernel_rfl) ?_
                refine EL.done (by kernel_rfl) ?_
                refine EQ.code ?_
                refine EW.ret (by kernel_rfl) ?_
                obtain rfl := Option.some.inj H
                exact EQ.leave (.bool (true)) (by kernel_rfl) ⟨_, rfl, rfl, (hS.re [] [0, 0, 0, 0, 0, 0, 0, 0, 0] rfl (sub_tail (sub_tail (sub_self))))⟩
  · rw [if_neg h1621] at H
    refine EW.seq (x := Cd6.r.l.r.l.l) (y := Cd6.r.l.r.l.r) (by kernel_rfl) ?_
    refine EW.region (id := 2) (ops := Cd6.r.l.r.l.l.ops) (by kernel_rfl) ?_
    refine EL.quick 1 [6] [(6, .bool (false))] (by kernel_rfl) ?_
    refine EL.done (by kernel_rfl) ?_
    refine EQ.code ?_
    refine EW.ret (by kernel_rfl) ?_
    refine EQ.ret ?_
    obtain rfl := Option.some.inj H
    exact EQ.leave (.bool (false)) (by kernel_rfl) ⟨_, rfl, rfl, (hS.re [] [] rfl (sub_self))⟩

def confidantlaw20_ParkStays.Pure : Prop := ∀ (a4 : Int) (a5 : Int) (a6 : Int), (Lit.int .u8 a4).wf = true → (Lit.int .u8 a5).wf = true → (Lit.int .u8 a6).wf = true → ∃ K, confidantlaw20_ParkStays.f K a4 a5 a6 = some true

end Go.Proofs.Ytipaaapbapijhaa.G
