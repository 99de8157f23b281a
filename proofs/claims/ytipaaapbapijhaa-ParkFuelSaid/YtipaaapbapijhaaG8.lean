import Derived.Test.YtipaaapbapijhaaProg
import Derived.Test.YtipaaapbapijhaaFwEq
import Derived.Test.YtipaaapbapijhaaFwOpen
import Derived.Test.YtipaaapbapijhaaG0
import Derived.Test.YtipaaapbapijhaaG2
import Derived.Test.YtipaaapbapijhaaG7
namespace Go.Proofs.Ytipaaapbapijhaa.G
open Go Go.Fw Go.RowKit Go.Proofs
set_option linter.unusedVariables false
set_option linter.unusedSimpArgs false

/-! ### (*confidant/confidantref15.Park).Look: function 20 -/
def confidantref15_Park_Look.l0 (K : Nat) (l1301 : List S53) (l1306 : List Int) (l1310 : List (List S96)) (j5668 : Int → (List S36) → (List S36) → (List S53) → Option (List S53 × List S36 × List S36 × Int)) : Nat → Int → (List S36) → (List S36) → (List S53) → Int → Option (List S53 × List S36 × List S36 × Int)
  | 0, _, _, _, _, _ => none
  | n + 1, x6092, x6093, x6097, x6101, x6105 => if x6105 < (l1301.length : Int) then (lt (fun (x6417 : List S36) (x6420 : List S36) (x6423 : List S53) (x6426 : Int) => (confidantref15_Park_Look.l0 K l1301 l1306 l1310 j5668 n x6426 x6417 x6420 x6423 (IntKind.i64.wrap (x6105 + 1)))) fun j6427 => (if 0 ≤ x6105 then (if x6092 = 0 then (lt ([(⟨(l1301.getD x6105.toNat zS53).f0.f0, (l1301.getD x6105.toNat zS53).f0.f1, (l1301.getD x6105.toNat zS53).f0.f2, (l1301.getD x6105.toNat zS53).f0.f3, (⟨(l1301.getD x6105.toNat zS53).f0.f4.f0, (l1301.getD x6105.toNat zS53).f0.f4.f1, (l1301.getD x6105.toNat zS53).f0.f4.f2, (l1301.getD x6105.toNat zS53).f0.f4.f3⟩ : S33), (l1301.getD x6105.toNat zS53).f0.f5, (l1301.getD x6105.toNat zS53).f0.f6, (l1301.getD x6105.toNat zS53).f0.f7, (l1301.getD x6105.toNat zS53).f0.f8⟩ : S36)] : List S36) fun l6445 => (if (x6097.length + l6445.length) * 96 ≤ 140737488355328 then (lt (x6097 ++ l6445) fun l6447 => (j6427 x6093 l6447 x6101 x6092)) else none)) else (b2 (confidantref12_Futures_Get.f K l1306 l1310 ((l1301.getD x6105.toNat zS53).f1)) fun (t6454 : S96) (t6455 : Bool) => (lt (fun (x6461 : Bool) => (if x6461 = true then (lt ([(⟨(l1301.getD x6105.toNat zS53).f0.f0, (l1301.getD x6105.toNat zS53).f0.f1, (l1301.getD x6105.toNat zS53).f0.f2, (l1301.getD x6105.toNat zS53).f0.f3, (⟨(l1301.getD x6105.toNat zS53).f0.f4.f0, (l1301.getD x6105.toNat zS53).f0.f4.f1, (l1301.getD x6105.toNat zS53).f0.f4.f2, (l1301.getD x6105.toNat zS53).f0.f4.f3⟩ : S33), (l1301.getD x6105.toNat zS53).f0.f5, (l1301.getD x6105.toNat zS53).f0.f6, (l1301.getD x6105.toNat zS53).f0.f7, (l1301.getD x6105.toNat zS53).f0.f8⟩ : S36)] : List S36) fun l6466 => (if (x6093.length + l6466.length) * 96 ≤ 140737488355328 then (lt (x6093 ++ l6466) fun l6468 => (j6427 l6468 x6097 x6101 (IntKind.i64.wrap (x6092 - 1)))) else none)) else (lt ([(⟨(⟨(l1301.getD x6105.toNat zS53).f0.f0, (l1301.getD x6105.toNat zS53).f0.f1, (l1301.getD x6105.toNat zS53).f0.f2, (l1301.getD x6105.toNat zS53).f0.f3, (⟨(l1301.getD x6105.toNat zS53).f0.f4.f0, (l1301.getD x6105.toNat zS53).f0.f4.f1, (l1301.getD x6105.toNat zS53).f0.f4.f2, (l1301.getD x6105.toNat zS53).f0.f4.f3⟩ : S33), (l1301.getD x6105.toNat zS53).f0.f5, (l1301.getD x6105.toNat zS53).f0.f6, (l1301.getD x6105.toNat zS53).f0.f7, (l1301.getD x6105.toNat zS53).f0.f8⟩ : S36), (l1301.getD x6105.toNat zS53).f1⟩ : S53)] : List S53) fun l6472 => (if (x6101.length + l6472.length) * 104 ≤ 140737488355328 then (lt (x6101 ++ l6472) fun l6474 => (j6427 x6093 x6097 l6474 (IntKind.i64.wrap (x6092 - 1)))) else none)))) fun j6462 => (if t6455 = true then (j6462 (!(decide (t6454.f1 = 0)))) else (j6462 false))))) else none)) else (j5668 x6092 x6093 x6097 x6101)
def confidantref15_Park_Look.f (K : Nat) (l1301 : List S53) (l1306 : List Int) (l1310 : List (List S96)) (a1314 : Int) : Option (List S53 × List S36 × List S36 × Int) := lt (fun (x5652 : Int) (x5653 : List S36) (x5658 : List S36) (x5663 : List S53) => (some (x5663, x5653, x5658, x5652))) fun j5668 => (confidantref15_Park_Look.l0 K l1301 l1306 l1310 j5668 K (mx a1314 0) ([] : List S36) ([] : List S36) ([] : List S53) 0)
set_option maxRecDepth 100000 in
theorem confidantref15_Park_Look.calls {K : Nat} {l1301 : List S53} {l1306 : List Int} {l1310 : List (List S96)} {a1314 : Int} {g1300 : Nat} {A1302 : Option Addr} {C1303 : Nat} {g1305 : Nat} {A1307 : Option Addr} {C1308 : Nat} {A1311 : Option Addr} {C1312 : Nat} {x4010 : List S53} {x4013 : List S36} {x4016 : List S36} {x4019 : Int} {B w : World} {os : List Ass} {rs : List Ro} (H : confidantref15_Park_Look.f K l1301 l1306 l1310 a1314 = some (x4010, x4013, x4016, x4019)) (hS : St B w (Ass.box 49 g1300 [.slice A1302 l1301.length C1303] :: Ass.box 105 g1305 [.slice A1307 l1306.length C1308, .slice A1311 l1310.length C1312] :: Ass.own 3 (Kd.int .i64) A1307 C1308 l1306 :: Ass.deep 94 96 kS96 A1311 C1312 l1310 :: os) (Ro.sl kS53 A1302 C1303 l1301 :: rs)) :
    Calls Try.prog 20 [.pointer (some ⟨g1300, 0, none⟩), .pointer (some ⟨g1305, 0, none⟩), .int .i64 a1314].toArray w (fun en w' => ∃ v, en = .returned v ∧ ∃ A4011 : Option Addr, ∃ C4012 : Nat, ∃ A4014 : Option Addr, ∃ C4015 : Nat, ∃ A4017 : Option Addr, ∃ C4018 : Nat, v = .tuple #[.slice A4014 x4013.length C4015, .slice A4017 x4016.length C4018, .int .i64 x4019] ∧ St B w' (Ass.box 49 g1300 [.slice A4011 x4010.length C4012] :: Ass.box 105 g1305 [.slice A1307 l1306.length C1308, .slice A1311 l1310.length C1312] :: Ass.own 3 (Kd.int .i64) A1307 C1308 l1306 :: Ass.deep 94 96 kS96 A1311 C1312 l1310 :: Ass.own 53 kS53 A4011 C4012 x4010 :: Ass.own 36 kS36 A4014 C4015 x4013 :: Ass.own 36 kS36 A4017 C4018 x4016 :: os) (Ro.sl kS53 A1302 C1303 l1301 :: rs)) := by
  unfold confidantref15_Park_Look.f at H
  refine calls_of_EW (args := [.pointer (some ⟨g1300, 0, none⟩), .pointer (some ⟨g1305, 0, none⟩), .int .i64 a1314]) (c := Cd20) 72 Try.func20 (by kernel_rfl) (by kernel_rfl) (by kernel_rfl) ?_
  refine EW.seq (x := Cd20.l) (y := Cd20.r) (by kernel_rfl) ?_
  refine EW.region (id := 0) (ops := Cd20.l.ops) (by kernel_rfl) ?_
  refine EL.quick 3 [0, 1, 2] [(0, .pointer (some ⟨g1300, 0, none⟩)), (1, .pointer (some ⟨g1305, 0, none⟩)), (2, .int .i64 a1314)] (by kernel_rfl) ?_
  refine EL.done (by kernel_rfl) ?_
  refine EQ.code ?_
  refine EW.seq (x := Cd20.r.l) (y := Cd20.r.r) (by kernel_rfl) ?_
  refine EW.region (id := 1) (ops := Cd20.r.l.ops) (by kernel_rfl) ?_
  refine EL.quick 2 [0, 1, 2, 9, 10] [(0, .pointer (some ⟨g1300, 0, none⟩)), (1, .pointer (some ⟨g1305, 0, none⟩)), (2, .int .i64 a1314), (9, .slice none ([] : List S36).length 0), (10, .slice none ([] : List S36).length 0)] (by kernel_rfl) ?_
  refine EL.done (by kernel_rfl) ?_
  refine EQ.code ?_
  refine EW.seq (x := Cd20.r.r.l) (y := Cd20.r.r.r) (by kernel_rfl) ?_
  refine EW.region (id := 2) (ops := Cd20.r.r.l.ops) (by kernel_rfl) ?_
  refine EL.quick 1 [0, 1, 2, 9, 10, 11] [(0, .pointer (some ⟨g1300, 0, none⟩)), (1, .pointer (some ⟨g1305, 0, none⟩)), (2, .int .i64 a1314), (9, .slice none ([] : List S36).length 0), (10, .slice none ([] : List S36).length 0), (11, .slice none ([] : List S53).length 0)] (by kernel_rfl) ?_
  refine EL.done (by kernel_rfl) ?_
  refine EQ.code ?_
  refine EW.seq (x := Cd20.r.r.r.l) (y := Cd20.r.r.r.r) (by kernel_rfl) ?_
  refine EW.region (id := 3) (ops := Cd20.r.r.r.l.ops) (by kernel_rfl) ?_
  refine EL.quick 3 [0, 1, 2, 9, 10, 11] [(0, .pointer (some ⟨g1300, 0, none⟩)), (1, .pointer (some ⟨g1305, 0, none⟩)), (2, .int .i64 (mx a1314 0)), (9, .slice none ([] : List S36).length 0), (10, .slice none ([] : List S36).length 0), (11, .slice none ([] : List S53).length 0)] (by kernel_rfl) ?_
  refine EL.done (by kernel_rfl) ?_
  refine EQ.code ?_
  obtain ⟨j5668, hj5668, H⟩ := lt_out H
  refine EW.cut (x := Cd20.r.r.r.r.l) (y := Cd20.r.r.r.r.r) (fun a w => ∃ x5652 : Int, ∃ x5653 : List S36, ∃ x5658 : List S36, ∃ x5663 : List S53, ∃ A5654 : Option Addr, ∃ C5655 : Nat, ∃ A5659 : Option Addr, ∃ C5660 : Nat, ∃ A5664 : Option Addr, ∃ C5665 : Nat, Sat 72 [(0, .pointer (some ⟨g1300, 0, none⟩)), (2, .int .i64 x5652), (9, .slice A5654 x5653.length C5655), (10, .slice A5659 x5658.length C5660), (11, .slice A5664 x5663.length C5665)] a ∧ St B w (Ass.box 49 g1300 [.slice A1302 l1301.length C1303] :: Ass.box 105 g1305 [.slice A1307 l1306.length C1308, .slice A1311 l1310.length C1312] :: Ass.own 3 (Kd.int .i64) A1307 C1308 l1306 :: Ass.deep 94 96 kS96 A1311 C1312 l1310 :: Ass.own 36 kS36 A5654 C5655 x5653 :: Ass.own 36 kS36 A5659 C5660 x5658 :: Ass.own 53 kS53 A5664 C5665 x5663 :: os) (Ro.sl kS53 A1302 C1303 l1301 :: rs) ∧ j5668 x5652 x5653 x5658 x5663 = some (x4010, x4013, x4016, x4019)) (by kernel_rfl) ?_ (fun a w hI => ?_)
  · refine EW.seq (x := Cd20.r.r.r.r.l.l) (y := Cd20.r.r.r.r.l.r) (by kernel_rfl) ?_
    refine EW.region (id := 4) (ops := Cd20.r.r.r.r.l.l.ops) (by kernel_rfl) ?_
    refine EL.quick 1 [0, 1, 2, 9, 10, 11, 12] [(0, .pointer (some ⟨g1300, 0, none⟩)), (1, .pointer (some ⟨g1305, 0, none⟩)), (2, .int .i64 (mx a1314 0)), (9, .slice none ([] : List S36).length 0), (10, .slice none ([] : List S36).length 0), (11, .slice none ([] : List S53).length 0), (12, .int .i64 0)] (by kernel_rfl) ?_
    refine EL.done (by kernel_rfl) ?_
    refine EQ.code ?_
    refine EW.block (x := Cd20.r.r.r.r.l.r.l) (id := 0) (by kernel_rfl) ?_
    have hS := St.nilO hS 36 kS36
    have hS := St.nilO hS 36 kS36
    have hS := St.nilO hS 53 kS53
    refine EW.loop (x := Cd20.r.r.r.r.l.r.l.l) (fun n a w => ∃ x6092 : Int, ∃ x6093 : List S36, ∃ x6097 : List S36, ∃ x6101 : List S53, ∃ x6105 : Int, ∃ A6094 : Option Addr, ∃ C6095 : Nat, ∃ A6098 : Option Addr, ∃ C6099 : Nat, ∃ A6102 : Option Addr, ∃ C6103 : Nat, Sat 72 [(0, .pointer (some ⟨g1300, 0, none⟩)), (1, .pointer (some ⟨g1305, 0, none⟩)), (2, .int .i64 x6092), (9, .slice A6094 x6093.length C6095), (10, .slice A6098 x6097.length C6099), (11, .slice A6102 x6101.length C6103), (12, .int .i64 x6105)] a ∧ St B w (Ass.box 49 g1300 [.slice A1302 l1301.length C1303] :: Ass.box 105 g1305 [.slice A1307 l1306.length C1308, .slice A1311 l1310.length C1312] :: Ass.own 3 (Kd.int .i64) A1307 C1308 l1306 :: Ass.deep 94 96 kS96 A1311 C1312 l1310 :: Ass.own 36 kS36 A6094 C6095 x6093 :: Ass.own 36 kS36 A6098 C6099 x6097 :: Ass.own 53 kS53 A6102 C6103 x6101 :: os) (Ro.sl kS53 A1302 C1303 l1301 :: rs) ∧ confidantref15_Park_Look.l0 K l1301 l1306 l1310 j5668 n x6092 x6093 x6097 x6101 x6105 = some (x4010, x4013, x4016, x4019)) K (by kernel_rfl) ?_ (fun n a w hI => ?_)
    · refine EQ.keep [0, 1, 2, 9, 10, 11, 12] [(0, .pointer (some ⟨g1300, 0, none⟩)), (1, .pointer (some ⟨g1305, 0, none⟩)), (2, .int .i64 (mx a1314 0)), (9, .slice none ([] : List S36).length 0), (10, .slice none ([] : List S36).length 0), (11, .slice none ([] : List S53).length 0), (12, .int .i64 0)] (by kernel_rfl) ?_
      exact fun a ha => ⟨mx a1314 0, ([] : List S36), ([] : List S36), ([] : List S53), 0, none, 0, none, 0, none, 0, ha, (hS.re [0, 1, 2, 6, 6, 6, 6] [] rfl (sub_cons 0 rfl (sub_tail (sub_self)))), H⟩
    · obtain ⟨x6092, x6093, x6097, x6101, x6105, A6094, C6095, A6098, C6099, A6102, C6103, ha, hS, H⟩ := hI
      obtain _ | n := n
      · simp [confidantref15_Park_Look.l0] at H
      rw [confidantref15_Park_Look.l0.eq_2] at H
      refine EW.at ?_ a ha
      clear ha a
      refine EW.seq (x := Cd20.r.r.r.r.l.r.l.l.l) (y := Cd20.r.r.r.r.l.r.l.l.r) (by kernel_rfl) ?_
      refine EW.seq (x := Cd20.r.r.r.r.l.r.l.l.l.l) (y := Cd20.r.r.r.r.l.r.l.l.l.r) (by kernel_rfl) ?_
      refine EW.region (id := 5) (ops := Cd20.r.r.r.r.l.r.l.l.l.l.ops) (by kernel_rfl) ?_
      refine EL.quick 4 [0, 1, 2, 9, 10, 11, 12, 18, 21] [(0, .pointer (some ⟨g1300, 0, none⟩)), (1, .pointer (some ⟨g1305, 0, none⟩)), (2, .int .i64 x6092), (9, .slice A6094 x6093.length C6095), (10, .slice A6098 x6097.length C6099), (11, .slice A6102 x6101.length C6103), (12, .int .i64 x6105), (18, .int .i64 x6105), (21, .pointer (some ⟨g1300, 0, none⟩))] (by kernel_rfl) ?_
      refine EL.of (EO.Y (YO.loadBox hS 0 rfl 47 0 1 (.slice A1302 l1301.length C1303) 22 (by kernel_rfl) (by kernel_rfl) (by kernel_rfl) (by kernel_rfl)) ?_)
      refine EL.quick 2 [0, 1, 2, 9, 10, 11, 12, 24] [(0, .pointer (some ⟨g1300, 0, none⟩)), (1, .pointer (some ⟨g1305, 0, none⟩)), (2, .int .i64 x6092), (9, .slice A6094 x6093.length C6095), (10, .slice A6098 x6097.length C6099), (11, .slice A6102 x6101.length C6103), (12, .int .i64 x6105), (24, .bool (decide (x6105 < (l1301.length : Int))))] (by kernel_rfl) ?_
      refine EL.done (by kernel_rfl) ?_
      refine EQ.code ?_
      refine EW.condP (o := (.tmp 24)) (x := Cd20.r.r.r.r.l.r.l.l.l.r.l) (y := Cd20.r.r.r.r.l.r.l.l.l.r.r) (x6105 < (l1301.length : Int)) (by kernel_rfl) (by kernel_rfl) (fun h6305 => ?_) (fun h6305 => ?_)
      · rw [if_pos h6305] at H
        refine EW.skip (by kernel_rfl) ?_
        refine EQ.code ?_
        obtain ⟨j6427, hj6427, H⟩ := lt_out H
        refine EW.cut (x := Cd20.r.r.r.r.l.r.l.l.r.l) (y := Cd20.r.r.r.r.l.r.l.l.r.r) (fun a w => ∃ x6417 : List S36, ∃ x6420 : List S36, ∃ x6423 : List S53, ∃ x6426 : Int, ∃ g6414 : Nat, ∃ A6415 : Option Addr, ∃ C6416 : Nat, ∃ A6418 : Option Addr, ∃ C6419 : Nat, ∃ A6421 : Option Addr, ∃ C6422 : Nat, ∃ A6424 : Option Addr, ∃ C6425 : Nat, Sat 72 [(0, .pointer (some ⟨g1300, 0, none⟩)), (1, .pointer (some ⟨g1305, 0, none⟩)), (2, .int .i64 x6426), (9, .slice A6418 x6417.length C6419), (10, .slice A6421 x6420.length C6422), (11, .slice A6424 x6423.length C6425), (12, .int .i64 x6105)] a ∧ St B w (Ass.box 53 g6414 [.int .i32 ((l1301.getD x6105.toNat zS53).f0.f0), .int .i64 ((l1301.getD x6105.toNat zS53).f0.f1), .int .i64 ((l1301.getD x6105.toNat zS53).f0.f2), .slice A6415 ((l1301.getD x6105.toNat zS53).f0.f3).length C6416, .int .i32 ((l1301.getD x6105.toNat zS53).f0.f4.f0), .int .i32 ((l1301.getD x6105.toNat zS53).f0.f4.f1), .int .i32 ((l1301.getD x6105.toNat zS53).f0.f4.f2), .int .i32 ((l1301.getD x6105.toNat zS53).f0.f4.f3), .int .i64 ((l1301.getD x6105.toNat zS53).f0.f5), .int .i64 ((l1301.getD x6105.toNat zS53).f0.f6), .int .u32 ((l1301.getD x6105.toNat zS53).f0.f7), .int .i64 ((l1301.getD x6105.toNat zS53).f0.f8), .int .i32 ((l1301.getD x6105.toNat zS53).f1)] :: Ass.box 49 g1300 [.slice A1302 l1301.length C1303] :: Ass.box 105 g1305 [.slice A1307 l1306.length C1308, .slice A1311 l1310.length C1312] :: Ass.own 3 (Kd.int .i64) A1307 C1308 l1306 :: Ass.deep 94 96 kS96 A1311 C1312 l1310 :: Ass.own 36 kS36 A6418 C6419 x6417 :: Ass.own 36 kS36 A6421 C6422 x6420 :: Ass.own 53 kS53 A6424 C6425 x6423 :: os) (Ro.sl (Kd.int .i32) A6415 C6416 ((l1301.getD x6105.toNat zS53).f0.f3) :: Ro.sl kS53 A1302 C1303 l1301 :: rs) ∧ j6427 x6417 x6420 x6423 x6426 = some (x4010, x4013, x4016, x4019)) (by kernel_rfl) ?_ (fun a w hI => ?_)
        · refine EW.block (x := Cd20.r.r.r.r.l.r.l.l.r.l.l) (id := 1) (by kernel_rfl) ?_
          refine EW.seq (x := Cd20.r.r.r.r.l.r.l.l.r.l.l.l) (y := Cd20.r.r.r.r.l.r.l.l.r.l.l.r) (by kernel_rfl) ?_
          refine EW.region (id := 7) (ops := Cd20.r.r.r.r.l.r.l.l.r.l.l.l.ops) (by kernel_rfl) ?_
          refine EL.quick 3 [0, 1, 2, 9, 10, 11, 12, 29] [(0, .pointer (some ⟨g1300, 0, none⟩)), (1, .pointer (some ⟨g1305, 0, none⟩)), (2, .int .i64 x6092), (9, .slice A6094 x6093.length C6095), (10, .slice A6098 x6097.length C6099), (11, .slice A6102 x6101.length C6103), (12, .int .i64 x6105), (29, .pointer (some ⟨g1300, 0, none⟩))] (by kernel_rfl) ?_
          refine EL.of (EO.Y (YO.loadBox hS 0 rfl 47 0 1 (.slice A1302 l1301.length C1303) 30 (by kernel_rfl) (by kernel_rfl) (by kernel_rfl) (by kernel_rfl)) ?_)
          refine EL.quick 1 [0, 1, 2, 9, 10, 11, 12, 30, 31] [(0, .pointer (some ⟨g1300, 0, none⟩)), (1, .pointer (some ⟨g1305, 0, none⟩)), (2, .int .i64 x6092), (9, .slice A6094 x6093.length C6095), (10, .slice A6098 x6097.length C6099), (11, .slice A6102 x6101.length C6103), (12, .int .i64 x6105), (30, .slice A1302 l1301.length C1303), (31, .int .i64 x6105)] (by kernel_rfl) ?_
          obtain ⟨h6432, H⟩ := ite_in H
          obtain ⟨ad6433, rfl⟩ := St.rd_some hS (Rd.ro 0 rfl) h6432 h6305
          refine EL.of (EO.Y (YO.idx 47 13 ad6433 l1301.length C1303 .i64 x6105 32 (by kernel_rfl) (by kernel_rfl) (by kernel_rfl) (by kernel_rfl) h6432 h6305) ?_)
          refine EL.of (EO.loadPt hS kS53 ad6433 C1303 l1301 (Rd.ro 0 rfl) zS53 cellsS53 factsS53 partsS53 x6105 h6432 h6305 53 13 0 13 rfl (fun b6434 => .agg #[.int .i32 ((l1301.getD x6105.toNat zS53).f0.f0), .int .i64 ((l1301.getD x6105.toNat zS53).f0.f1), .int .i64 ((l1301.getD x6105.toNat zS53).f0.f2), .slice b6434.1 ((l1301.getD x6105.toNat zS53).f0.f3).length b6434.2, .int .i32 ((l1301.getD x6105.toNat zS53).f0.f4.f0), .int .i32 ((l1301.getD x6105.toNat zS53).f0.f4.f1), .int .i32 ((l1301.getD x6105.toNat zS53).f0.f4.f2), .int .i32 ((l1301.getD x6105.toNat zS53).f0.f4.f3), .int .i64 ((l1301.getD x6105.toNat zS53).f0.f5), .int .i64 ((l1301.getD x6105.toNat zS53).f0.f6), .int .u32 ((l1301.getD x6105.toNat zS53).f0.f7), .int .i64 ((l1301.getD x6105.toNat zS53).f0.f8), .int .i32 ((l1301.getD x6105.toNat zS53).f1)]) 33 (by kernel_rfl) (by kernel_rfl) (by kernel_rfl) (fun b6434 => (by kernel_rfl)) ?_)
          intro b6434 hS
          refine EL.of (EO.alloc hS 53 (.agg #[.int .i32 0, .int .i64 0, .int .i64 0, .slice none ([] : List Int).length 0, .int .i32 0, .int .i32 0, .int .i32 0, .int .i32 0, .int .i64 0, .int .i64 0, .int .u32 0, .int .i64 0, .int .i32 0]) [.int .i32 0, .int .i64 0, .int .i64 0, .slice none ([] : List Int).length 0, .int .i32 0, .int .i32 0, .int .i32 0, .int .i32 0, .int .i64 0, .int .i64 0, .int .u32 0, .int .i64 0, .int .i32 0] 13 (by kernel_rfl) (by kernel_rfl) (by kernel_rfl) (by kernel_rfl) (by first | rfl | kernel_rfl) ?_)
          intro g6435 w hS
          refine EL.of (EO.storeBox (os' := Ass.box 53 g6435 [.int .i32 ((l1301.getD x6105.toNat zS53).f0.f0), .int .i64 ((l1301.getD x6105.toNat zS53).f0.f1), .int .i64 ((l1301.getD x6105.toNat zS53).f0.f2), .slice b6434.1 ((l1301.getD x6105.toNat zS53).f0.f3).length b6434.2, .int .i32 ((l1301.getD x6105.toNat zS53).f0.f4.f0), .int .i32 ((l1301.getD x6105.toNat zS53).f0.f4.f1), .int .i32 ((l1301.getD x6105.toNat zS53).f0.f4.f2), .int .i32 ((l1301.getD x6105.toNat zS53).f0.f4.f3), .int .i64 ((l1301.getD x6105.toNat zS53).f0.f5), .int .i64 ((l1301.getD x6105.toNat zS53).f0.f6), .int .u32 ((l1301.getD x6105.toNat zS53).f0.f7), .int .i64 ((l1301.getD x6105.toNat zS53).f0.f8), .int .i32 ((l1301.getD x6105.toNat zS53).f1)] :: Ass.box 49 g1300 [.slice (some ad6433) l1301.length C1303] :: Ass.box 105 g1305 [.slice A1307 l1306.length C1308, .slice A1311 l1310.length C1312] :: Ass.own 3 (Kd.int .i64) A1307 C1308 l1306 :: Ass.deep 94 96 kS96 A1311 C1312 l1310 :: Ass.own 36 kS36 A6094 C6095 x6093 :: Ass.own 36 kS36 A6098 C6099 x6097 :: Ass.own 53 kS53 A6102 C6103 x6101 :: os) hS 0 rfl 53 0 (.agg #[.int .i32 ((l1301.getD x6105.toNat zS53).f0.f0), .int .i64 ((l1301.getD x6105.toNat zS53).f0.f1), .int .i64 ((l1301.getD x6105.toNat zS53).f0.f2), .slice b6434.1 ((l1301.getD x6105.toNat zS53).f0.f3).length b6434.2, .int .i32 ((l1301.getD x6105.toNat zS53).f0.f4.f0), .int .i32 ((l1301.getD x6105.toNat zS53).f0.f4.f1), .int .i32 ((l1301.getD x6105.toNat zS53).f0.f4.f2), .int .i32 ((l1301.getD x6105.toNat zS53).f0.f4.f3), .int .i64 ((l1301.getD x6105.toNat zS53).f0.f5), .int .i64 ((l1301.getD x6105.toNat zS53).f0.f6), .int .u32 ((l1301.getD x6105.toNat zS53).f0.f7), .int .i64 ((l1301.getD x6105.toNat zS53).f0.f8), .int .i32 ((l1301.getD x6105.toNat zS53).f1)]) [.int .i32 ((l1301.getD x6105.toNat zS53).f0.f0), .int .i64 ((l1301.getD x6105.toNat zS53).f0.f1), .int .i64 ((l1301.getD x6105.toNat zS53).f0.f2), .slice b6434.1 ((l1301.getD x6105.toNat zS53).f0.f3).length b6434.2, .int .i32 ((l1301.getD x6105.toNat zS53).f0.f4.f0), .int .i32 ((l1301.getD x6105.toNat zS53).f0.f4.f1), .int .i32 ((l1301.getD x6105.toNat zS53).f0.f4.f2), .int .i32 ((l1301.getD x6105.toNat zS53).f0.f4.f3), .int .i64 ((l1301.getD x6105.toNat zS53).f0.f5), .int .i64 ((l1301.getD x6105.toNat zS53).f0.f6), .int .u32 ((l1301.getD x6105.toNat zS53).f0.f7), .int .i64 ((l1301.getD x6105.toNat zS53).f0.f8), .int .i32 ((l1301.getD x6105.toNat zS53).f1)] (by kernel_rfl) (by kernel_rfl) (by kernel_rfl) (by kernel_rfl) (by kernel_rfl) (by kernel_rfl) rfl rfl ?_)
          intro w hS
          refine EL.done (by kernel_rfl) ?_
          refine EQ.code ?_
          refine EW.seq (x := Cd20.r.r.r.r.l.r.l.l.r.l.l.r.l) (y := Cd20.r.r.r.r.l.r.l.l.r.l.l.r.r) (by kernel_rfl) ?_
          refine EW.seq (x := Cd20.r.r.r.r.l.r.l.l.r.l.l.r.l.l) (y := Cd20.r.r.r.r.l.r.l.l.r.l.l.r.l.r) (by kernel_rfl) ?_
          refine EW.region (id := 8) (ops := Cd20.r.r.r.r.l.r.l.l.r.l.l.r.l.l.ops) (by kernel_rfl) ?_
          refine EL.quick 2 [0, 1, 2, 9, 10, 11, 12, 13, 35] [(0, .pointer (some ⟨g1300, 0, none⟩)), (1, .pointer (some ⟨g1305, 0, none⟩)), (2, .int .i64 x6092), (9, .slice A6094 x6093.length C6095), (10, .slice A6098 x6097.length C6099), (11, .slice A6102 x6101.length C6103), (12, .int .i64 x6105), (13, .pointer (some ⟨g6435, 0, none⟩)), (35, .bool (decide (x6092 = 0)))] (by kernel_rfl) ?_
          refine EL.done (by kernel_rfl) ?_
          refine EQ.code ?_
          refine EW.condP (o := (.tmp 35)) (x := Cd20.r.r.r.r.l.r.l.l.r.l.l.r.l.r.l) (y := Cd20.r.r.r.r.l.r.l.l.r.l.l.r.l.r.r) (x6092 = 0) (by kernel_rfl) (by kernel_rfl) (fun h6443 => ?_) (fun h6443 => ?_)
          · rw [if_pos h6443] at H
            refine EW.seq (x := Cd20.r.r.r.r.l.r.l.l.r.l.l.r.l.r.l.l) (y := Cd20.r.r.r.r.l.r.l.l.r.l.l.r.l.r.l.r) (by kernel_rfl) ?_
            refine EW.region (id := 9) (ops := Cd20.r.r.r.r.l.r.l.l.r.l.l.r.l.r.l.l.ops) (by kernel_rfl) ?_
            refine EL.quick 2 [0, 1, 2, 9, 11, 12, 36, 37] [(0, .pointer (some ⟨g1300, 0, none⟩)), (1, .pointer (some ⟨g1305, 0, none⟩)), (2, .int .i64 x6092), (9, .slice A6094 x6093.length C6095), (11, .slice A6102 x6101.length C6103), (12, .int .i64 x6105), (36, .slice A6098 x6097.length C6099), (37, .pointer (some ⟨g6435, 0, none⟩))] (by kernel_rfl) ?_
            refine EL.of (EO.Y (YO.loadBox hS 0 rfl 36 0 12 (.agg #[.int .i32 ((l1301.getD x6105.toNat zS53).f0.f0), .int .i64 ((l1301.getD x6105.toNat zS53).f0.f1), .int .i64 ((l1301.getD x6105.toNat zS53).f0.f2), .slice b6434.1 ((l1301.getD x6105.toNat zS53).f0.f3).length b6434.2, .int .i32 ((l1301.getD x6105.toNat zS53).f0.f4.f0), .int .i32 ((l1301.getD x6105.toNat zS53).f0.f4.f1), .int .i32 ((l1301.getD x6105.toNat zS53).f0.f4.f2), .int .i32 ((l1301.getD x6105.toNat zS53).f0.f4.f3), .int .i64 ((l1301.getD x6105.toNat zS53).f0.f5), .int .i64 ((l1301.getD x6105.toNat zS53).f0.f6), .int .u32 ((l1301.getD x6105.toNat zS53).f0.f7), .int .i64 ((l1301.getD x6105.toNat zS53).f0.f8)]) 38 (by kernel_rfl) (by kernel_rfl) (by kernel_rfl) (by kernel_rfl)) ?_)
            obtain ⟨l6445, hl6445, H⟩ := lt_out H
            refine EL.of (EO.lit hS kS36 36 37 1 #[(0, .agg #[.int .i32 ((l1301.getD x6105.toNat zS53).f0.f0), .int .i64 ((l1301.getD x6105.toNat zS53).f0.f1), .int .i64 ((l1301.getD x6105.toNat zS53).f0.f2), .slice b6434.1 ((l1301.getD x6105.toNat zS53).f0.f3).length b6434.2, .int .i32 ((l1301.getD x6105.toNat zS53).f0.f4.f0), .int .i32 ((l1301.getD x6105.toNat zS53).f0.f4.f1), .int .i32 ((l1301.getD x6105.toNat zS53).f0.f4.f2), .int .i32 ((l1301.getD x6105.toNat zS53).f0.f4.f3), .int .i64 ((l1301.getD x6105.toNat zS53).f0.f5), .int .i64 ((l1301.getD x6105.toNat zS53).f0.f6), .int .u32 ((l1301.getD x6105.toNat zS53).f0.f7), .int .i64 ((l1301.getD x6105.toNat zS53).f0.f8)])] [.int .i32 ((l1301.getD x6105.toNat zS53).f0.f0), .int .i64 ((l1301.getD x6105.toNat zS53).f0.f1), .int .i64 ((l1301.getD x6105.toNat zS53).f0.f2), .slice b6434.1 ((l1301.getD x6105.toNat zS53).f0.f3).length b6434.2, .int .i32 ((l1301.getD x6105.toNat zS53).f0.f4.f0), .int .i32 ((l1301.getD x6105.toNat zS53).f0.f4.f1), .int .i32 ((l1301.getD x6105.toNat zS53).f0.f4.f2), .int .i32 ((l1301.getD x6105.toNat zS53).f0.f4.f3), .int .i64 ((l1301.getD x6105.toNat zS53).f0.f5), .int .i64 ((l1301.getD x6105.toNat zS53).f0.f6), .int .u32 ((l1301.getD x6105.toNat zS53).f0.f7), .int .i64 ((l1301.getD x6105.toNat zS53).f0.f8)] l6445 39 (by kernel_rfl) (by kernel_rfl) (by kernel_rfl) (fun _ => (by kernel_rfl)) (by rw [hl6445]; rfl) (by kernel_rfl) (fun w G hr => (by rw [hl6445]; exact ⟨[.int .i32 ((l1301.getD x6105.toNat zS53).f0.f0), .int .i64 ((l1301.getD x6105.toNat zS53).f0.f1), .int .i64 ((l1301.getD x6105.toNat zS53).f0.f2), .slice b6434.1 ((l1301.getD x6105.toNat zS53).f0.f3).length b6434.2, .int .i32 ((l1301.getD x6105.toNat zS53).f0.f4.f0), .int .i32 ((l1301.getD x6105.toNat zS53).f0.f4.f1), .int .i32 ((l1301.getD x6105.toNat zS53).f0.f4.f2), .int .i32 ((l1301.getD x6105.toNat zS53).f0.f4.f3), .int .i64 ((l1301.getD x6105.toNat zS53).f0.f5), .int .i64 ((l1301.getD x6105.toNat zS53).f0.f6), .int .u32 ((l1301.getD x6105.toNat zS53).f0.f7), .int .i64 ((l1301.getD x6105.toNat zS53).f0.f8)], [], rfl, ⟨[.int .i32 ((l1301.getD x6105.toNat zS53).f0.f0)], [.int .i64 ((l1301.getD x6105.toNat zS53).f0.f1), .int .i64 ((l1301.getD x6105.toNat zS53).f0.f2), .slice b6434.1 ((l1301.getD x6105.toNat zS53).f0.f3).length b6434.2, .int .i32 ((l1301.getD x6105.toNat zS53).f0.f4.f0), .int .i32 ((l1301.getD x6105.toNat zS53).f0.f4.f1), .int .i32 ((l1301.getD x6105.toNat zS53).f0.f4.f2), .int .i32 ((l1301.getD x6105.toNat zS53).f0.f4.f3), .int .i64 ((l1301.getD x6105.toNat zS53).f0.f5), .int .i64 ((l1301.getD x6105.toNat zS53).f0.f6), .int .u32 ((l1301.getD x6105.toNat zS53).f0.f7), .int .i64 ((l1301.getD x6105.toNat zS53).f0.f8)], rfl, rfl, ⟨[.int .i64 ((l1301.getD x6105.toNat zS53).f0.f1)], [.int .i64 ((l1301.getD x6105.toNat zS53).f0.f2), .slice b6434.1 ((l1301.getD x6105.toNat zS53).f0.f3).length b6434.2, .int .i32 ((l1301.getD x6105.toNat zS53).f0.f4.f0), .int .i32 ((l1301.getD x6105.toNat zS53).f0.f4.f1), .int .i32 ((l1301.getD x6105.toNat zS53).f0.f4.f2), .int .i32 ((l1301.getD x6105.toNat zS53).f0.f4.f3), .int .i64 ((l1301.getD x6105.toNat zS53).f0.f5), .int .i64 ((l1301.getD x6105.toNat zS53).f0.f6), .int .u32 ((l1301.getD x6105.toNat zS53).f0.f7), .int .i64 ((l1301.getD x6105.toNat zS53).f0.f8)], rfl, rfl, ⟨[.int .i64 ((l1301.getD x6105.toNat zS53).f0.f2)], [.slice b6434.1 ((l1301.getD x6105.toNat zS53).f0.f3).length b6434.2, .int .i32 ((l1301.getD x6105.toNat zS53).f0.f4.f0), .int .i32 ((l1301.getD x6105.toNat zS53).f0.f4.f1), .int .i32 ((l1301.getD x6105.toNat zS53).f0.f4.f2), .int .i32 ((l1301.getD x6105.toNat zS53).f0.f4.f3), .int .i64 ((l1301.getD x6105.toNat zS53).f0.f5), .int .i64 ((l1301.getD x6105.toNat zS53).f0.f6), .int .u32 ((l1301.getD x6105.toNat zS53).f0.f7), .int .i64 ((l1301.getD x6105.toNat zS53).f0.f8)], rfl, rfl, ⟨[.slice b6434.1 ((l1301.getD x6105.toNat zS53).f0.f3).length b6434.2], [.int .i32 ((l1301.getD x6105.toNat zS53).f0.f4.f0), .int .i32 ((l1301.getD x6105.toNat zS53).f0.f4.f1), .int .i32 ((l1301.getD x6105.toNat zS53).f0.f4.f2), .int .i32 ((l1301.getD x6105.toNat zS53).f0.f4.f3), .int .i64 ((l1301.getD x6105.toNat zS53).f0.f5), .int .i64 ((l1301.getD x6105.toNat zS53).f0.f6), .int .u32 ((l1301.getD x6105.toNat zS53).f0.f7), .int .i64 ((l1301.getD x6105.toNat zS53).f0.f8)], rfl, (hr _ (List.mem_of_getElem? (i := 0) rfl)), ⟨[.int .i32 ((l1301.getD x6105.toNat zS53).f0.f4.f0), .int .i32 ((l1301.getD x6105.toNat zS53).f0.f4.f1), .int .i32 ((l1301.getD x6105.toNat zS53).f0.f4.f2), .int .i32 ((l1301.getD x6105.toNat zS53).f0.f4.f3)], [.int .i64 ((l1301.getD x6105.toNat zS53).f0.f5), .int .i64 ((l1301.getD x6105.toNat zS53).f0.f6), .int .u32 ((l1301.getD x6105.toNat zS53).f0.f7), .int .i64 ((l1301.getD x6105.toNat zS53).f0.f8)], rfl, ⟨[.int .i32 ((l1301.getD x6105.toNat zS53).f0.f4.f0)], [.int .i32 ((l1301.getD x6105.toNat zS53).f0.f4.f1), .int .i32 ((l1301.getD x6105.toNat zS53).f0.f4.f2), .int .i32 ((l1301.getD x6105.toNat zS53).f0.f4.f3)], rfl, rfl, ⟨[.int .i32 ((l1301.getD x6105.toNat zS53).f0.f4.f1)], [.int .i32 ((l1301.getD x6105.toNat zS53).f0.f4.f2), .int .i32 ((l1301.getD x6105.toNat zS53).f0.f4.f3)], rfl, rfl, ⟨[.int .i32 ((l1301.getD x6105.toNat zS53).f0.f4.f2)], [.int .i32 ((l1301.getD x6105.toNat zS53).f0.f4.f3)], rfl, rfl, ⟨[.int .i32 ((l1301.getD x6105.toNat zS53).f0.f4.f3)], [], rfl, rfl, rfl⟩⟩⟩⟩, ⟨[.int .i64 ((l1301.getD x6105.toNat zS53).f0.f5)], [.int .i64 ((l1301.getD x6105.toNat zS53).f0.f6), .int .u32 ((l1301.getD x6105.toNat zS53).f0.f7), .int .i64 ((l1301.getD x6105.toNat zS53).f0.f8)], rfl, rfl, ⟨[.int .i64 ((l1301.getD x6105.toNat zS53).f0.f6)], [.int .u32 ((l1301.getD x6105.toNat zS53).f0.f7), .int .i64 ((l1301.getD x6105.toNat zS53).f0.f8)], rfl, rfl, ⟨[.int .u32 ((l1301.getD x6105.toNat zS53).f0.f7)], [.int .i64 ((l1301.getD x6105.toNat zS53).f0.f8)], rfl, rfl, ⟨[.int .i64 ((l1301.getD x6105.toNat zS53).f0.f8)], [], rfl, rfl, rfl⟩⟩⟩⟩⟩⟩⟩⟩⟩, rfl⟩)) ?_)
            intro g6444 w hS
            obtain ⟨h6446, H⟩ := ite_in H
            obtain ⟨l6447, hl6447, H⟩ := lt_out H
            refine EL.of (EO.append hS 37 37 36 96 7 kS36 A6098 C6099 x6097 rfl (some ⟨g6444, 0, none⟩) 1 l6445 (Rd.own 0 36 rfl) l6447 hl6447 (fun A6448 C6449 => Ass.own 36 kS36 (some ⟨g6444, 0, none⟩) 1 l6445 :: Ass.box 53 g6435 [.int .i32 ((l1301.getD x6105.toNat zS53).f0.f0), .int .i64 ((l1301.getD x6105.toNat zS53).f0.f1), .int .i64 ((l1301.getD x6105.toNat zS53).f0.f2), .slice b6434.1 ((l1301.getD x6105.toNat zS53).f0.f3).length b6434.2, .int .i32 ((l1301.getD x6105.toNat zS53).f0.f4.f0), .int .i32 ((l1301.getD x6105.toNat zS53).f0.f4.f1), .int .i32 ((l1301.getD x6105.toNat zS53).f0.f4.f2), .int .i32 ((l1301.getD x6105.toNat zS53).f0.f4.f3), .int .i64 ((l1301.getD x6105.toNat zS53).f0.f5), .int .i64 ((l1301.getD x6105.toNat zS53).f0.f6), .int .u32 ((l1301.getD x6105.toNat zS53).f0.f7), .int .i64 ((l1301.getD x6105.toNat zS53).f0.f8), .int .i32 ((l1301.getD x6105.toNat zS53).f1)] :: Ass.box 49 g1300 [.slice (some ad6433) l1301.length C1303] :: Ass.box 105 g1305 [.slice A1307 l1306.length C1308, .slice A1311 l1310.length C1312] :: Ass.own 3 (Kd.int .i64) A1307 C1308 l1306 :: Ass.deep 94 96 kS96 A1311 C1312 l1310 :: Ass.own 36 kS36 A6094 C6095 x6093 :: Ass.own 36 kS36 A6448 C6449 l6447 :: Ass.own 53 kS53 A6102 C6103 x6101 :: os) 40 (by kernel_rfl) (by kernel_rfl) (by kernel_rfl) (by kernel_rfl) h6446 (fun _ _ => rfl) ?_)
            intro A6448 C6449 w hS
            refine EL.quick 1 [0, 1, 2, 9, 10, 11, 12] [(0, .pointer (some ⟨g1300, 0, none⟩)), (1, .pointer (some ⟨g1305, 0, none⟩)), (2, .int .i64 x6092), (9, .slice A6094 x6093.length C6095), (10, .slice A6448 l6447.length C6449), (11, .slice A6102 x6101.length C6103), (12, .int .i64 x6105)] (by kernel_rfl) ?_
            refine EL.done (by kernel_rfl) ?_
            refine EQ.code ?_
            refine EW.exit (id := 1) (by kernel_rfl) ?_
            refine EQ.exitCode ?_
            refine EQ.exitHere ?_
            refine EQ.to ?_
            refine EQ.keep [0, 1, 2, 9, 10, 11, 12] [(0, .pointer (some ⟨g1300, 0, none⟩)), (1, .pointer (some ⟨g1305, 0, none⟩)), (2, .int .i64 x6092), (9, .slice A6094 x6093.length C6095), (10, .slice A6448 l6447.length C6449), (11, .slice A6102 x6101.length C6103), (12, .int .i64 x6105)] (by kernel_rfl) ?_
            exact fun a ha => ⟨x6093, l6447, x6101, x6092, g6435, b6434.1, b6434.2, A6094, C6095, A6448, C6449, A6102, C6103, ha, (hS.re [8, 8, 8, 8, 8, 8, 8, 8] [8] rfl (sub_cons 0 rfl (sub_cons 1 rfl (sub_tail (sub_tail (sub_self)))))), H⟩
          · rw [if_neg h6443] at H
            refine EW.skip (by kernel_rfl) ?_
            refine EQ.code ?_
            refine EW.seq (x := Cd20.r.r.r.r.l.r.l.l.r.l.l.r.r.l) (y := Cd20.r.r.r.r.l.r.l.l.r.l.l.r.r.r) (by kernel_rfl) ?_
            refine EW.region (id := 10) (ops := Cd20.r.r.r.r.l.r.l.l.r.l.l.r.r.l.ops) (by kernel_rfl) ?_
            refine EL.quick 3 [0, 1, 2, 9, 10, 11, 12, 13] [(0, .pointer (some ⟨g1300, 0, none⟩)), (1, .pointer (some ⟨g1305, 0, none⟩)), (2, .int .i64 (IntKind.i64.wrap (x6092 - 1))), (9, .slice A6094 x6093.length C6095), (10, .slice A6098 x6097.length C6099), (11, .slice A6102 x6101.length C6103), (12, .int .i64 x6105), (13, .pointer (some ⟨g6435, 0, none⟩))] (by kernel_rfl) ?_
            refine EL.done (by kernel_rfl) ?_
            refine EQ.code ?_
            refine EW.seq (x := Cd20.r.r.r.r.l.r.l.l.r.l.l.r.r.r.l) (y := Cd20.r.r.r.r.l.r.l.l.r.l.l.r.r.r.r) (by kernel_rfl) ?_
            refine EW.region (id := 11) (ops := Cd20.r.r.r.r.l.r.l.l.r.l.l.r.r.r.l.ops) (by kernel_rfl) ?_
            refine EL.quick 2 [0, 1, 2, 9, 10, 11, 12, 13, 44, 45] [(0, .pointer (some ⟨g1300, 0, none⟩)), (1, .pointer (some ⟨g1305, 0, none⟩)), (2, .int .i64 (IntKind.i64.wrap (x6092 - 1))), (9, .slice A6094 x6093.length C6095), (10, .slice A6098 x6097.length C6099), (11, .slice A6102 x6101.length C6103), (12, .int .i64 x6105), (13, .pointer (some ⟨g6435, 0, none⟩)), (44, .pointer (some ⟨g1305, 0, none⟩)), (45, .pointer (some ⟨g6435, 12, none⟩))] (by kernel_rfl) ?_
            refine EL.of (EO.Y (YO.loadBox hS 0 rfl 21 12 1 (.int .i32 ((l1301.getD x6105.toNat zS53).f1)) 46 (by kernel_rfl) (by kernel_rfl) (by kernel_rfl) (by kernel_rfl)) ?_)
            have hS : St B _ (Ass.box 105 g1305 [.slice A1307 l1306.length C1308, .slice A1311 l1310.length C1312] :: Ass.own 3 (Kd.int .i64) A1307 C1308 l1306 :: Ass.deep 94 96 kS96 A1311 C1312 l1310 :: Ass.box 53 g6435 [.int .i32 ((l1301.getD x6105.toNat zS53).f0.f0), .int .i64 ((l1301.getD x6105.toNat zS53).f0.f1), .int .i64 ((l1301.getD x6105.toNat zS53).f0.f2), .slice b6434.1 ((l1301.getD x6105.toNat zS53).f0.f3).length b6434.2, .int .i32 ((l1301.getD x6105.toNat zS53).f0.f4.f0), .int .i32 ((l1301.getD x6105.toNat zS53).f0.f4.f1), .int .i32 ((l1301.getD x6105.toNat zS53).f0.f4.f2), .int .i32 ((l1301.getD x6105.toNat zS53).f0.f4.f3), .int .i64 ((l1301.getD x6105.toNat zS53).f0.f5), .int .i64 ((l1301.getD x6105.toNat zS53).f0.f6), .int .u32 ((l1301.getD x6105.toNat zS53).f0.f7), .int .i64 ((l1301.getD x6105.toNat zS53).f0.f8), .int .i32 ((l1301.getD x6105.toNat zS53).f1)] :: Ass.box 49 g1300 [.slice (some ad6433) l1301.length C1303] :: Ass.own 36 kS36 A6094 C6095 x6093 :: Ass.own 36 kS36 A6098 C6099 x6097 :: Ass.own 53 kS53 A6102 C6103 x6101 :: os) (Ro.sl (Kd.int .i32) b6434.1 b6434.2 ((l1301.getD x6105.toNat zS53).f0.f3) :: Ro.sl kS53 (some ad6433) C1303 l1301 :: rs) := hS.re [4, 4, 4] [] rfl sub_self
            obtain ⟨t6454, t6455, hc6456, H⟩ := b2_out H
            refine EL.of (EO.callD 48 [.pointer (some ⟨g1305, 0, none⟩), .int .i32 ((l1301.getD x6105.toNat zS53).f1)] _ 47 (by kernel_rfl) (by kernel_rfl) (by kernel_rfl) (confidantref12_Futures_Get.calls hc6456 hS) ?_)
            rintro v w ⟨rfl, hS⟩
            refine EL.quick 3 [0, 1, 2, 9, 10, 11, 12, 13, 48, 49] [(0, .pointer (some ⟨g1300, 0, none⟩)), (1, .pointer (some ⟨g1305, 0, none⟩)), (2, .int .i64 (IntKind.i64.wrap (x6092 - 1))), (9, .slice A6094 x6093.length C6095), (10, .slice A6098 x6097.length C6099), (11, .slice A6102 x6101.length C6103), (12, .int .i64 x6105), (13, .pointer (some ⟨g6435, 0, none⟩)), (48, .agg #[.int .i64 t6454.f0, .int .i64 t6454.f1, .int .i32 t6454.f2, .int .i64 t6454.f3]), (49, .bool (t6455))] (by kernel_rfl) ?_
            refine EL.of (EO.alloc hS 96 (.agg #[.int .i64 0, .int .i64 0, .int .i32 0, .int .i64 0]) [.int .i64 0, .int .i64 0, .int .i32 0, .int .i64 0] 14 (by kernel_rfl) (by kernel_rfl) (by kernel_rfl) (by kernel_rfl) (by first | rfl | kernel_rfl) ?_)
            intro g6457 w hS
            refine EL.of (EO.storeBox (os' := Ass.box 96 g6457 [.int .i64 t6454.f0, .int .i64 t6454.f1, .int .i32 t6454.f2, .int .i64 t6454.f3] :: Ass.box 105 g1305 [.slice A1307 l1306.length C1308, .slice A1311 l1310.length C1312] :: Ass.own 3 (Kd.int .i64) A1307 C1308 l1306 :: Ass.deep 94 96 kS96 A1311 C1312 l1310 :: Ass.box 53 g6435 [.int .i32 ((l1301.getD x6105.toNat zS53).f0.f0), .int .i64 ((l1301.getD x6105.toNat zS53).f0.f1), .int .i64 ((l1301.getD x6105.toNat zS53).f0.f2), .slice b6434.1 ((l1301.getD x6105.toNat zS53).f0.f3).length b6434.2, .int .i32 ((l1301.getD x6105.toNat zS53).f0.f4.f0), .int .i32 ((l1301.getD x6105.toNat zS53).f0.f4.f1), .int .i32 ((l1301.getD x6105.toNat zS53).f0.f4.f2), .int .i32 ((l1301.getD x6105.toNat zS53).f0.f4.f3), .int .i64 ((l1301.getD x6105.toNat zS53).f0.f5), .int .i64 ((l1301.getD x6105.toNat zS53).f0.f6), .int .u32 ((l1301.getD x6105.toNat zS53).f0.f7), .int .i64 ((l1301.getD x6105.toNat zS53).f0.f8), .int .i32 ((l1301.getD x6105.toNat zS53).f1)] :: Ass.box 49 g1300 [.slice (some ad6433) l1301.length C1303] :: Ass.own 36 kS36 A6094 C6095 x6093 :: Ass.own 36 kS36 A6098 C6099 x6097 :: Ass.own 53 kS53 A6102 C6103 x6101 :: os) hS 0 rfl 96 0 (.agg #[.int .i64 t6454.f0, .int .i64 t6454.f1, .int .i32 t6454.f2, .int .i64 t6454.f3]) [.int .i64 t6454.f0, .int .i64 t6454.f1, .int .i32 t6454.f2, .int .i64 t6454.f3] (by kernel_rfl) (by kernel_rfl) (by kernel_rfl) (by kernel_rfl) (by kernel_rfl) (by kernel_rfl) rfl rfl ?_)
            intro w hS
            refine EL.quick 1 [0, 1, 2, 9, 10, 11, 12, 13, 14, 15] [(0, .pointer (some ⟨g1300, 0, none⟩)), (1, .pointer (some ⟨g1305, 0, none⟩)), (2, .int .i64 (IntKind.i64.wrap (x6092 - 1))), (9, .slice A6094 x6093.length C6095), (10, .slice A6098 x6097.length C6099), (11, .slice A6102 x6101.length C6103), (12, .int .i64 x6105), (13, .pointer (some ⟨g6435, 0, none⟩)), (14, .pointer (some ⟨g6457, 0, none⟩)), (15, .bool (t6455))] (by kernel_rfl) ?_
            refine EL.done (by kernel_rfl) ?_
            refine EQ.code ?_
            obtain ⟨j6462, hj6462, H⟩ := lt_out H
            refine EW.cut (x := Cd20.r.r.r.r.l.r.l.l.r.l.l.r.r.r.r.l) (y := Cd20.r.r.r.r.l.r.l.l.r.l.l.r.r.r.r.r) (fun a w => ∃ x6461 : Bool, Sat 72 [(0, .pointer (some ⟨g1300, 0, none⟩)), (1, .pointer (some ⟨g1305, 0, none⟩)), (2, .int .i64 (IntKind.i64.wrap (x6092 - 1))), (9, .slice A6094 x6093.length C6095), (10, .slice A6098 x6097.length C6099), (11, .slice A6102 x6101.length C6103), (12, .int .i64 x6105), (13, .pointer (some ⟨g6435, 0, none⟩)), (55, .bool (x6461))] a ∧ St B w (Ass.box 96 g6457 [.int .i64 t6454.f0, .int .i64 t6454.f1, .int .i32 t6454.f2, .int .i64 t6454.f3] :: Ass.box 105 g1305 [.slice A1307 l1306.length C1308, .slice A1311 l1310.length C1312] :: Ass.own 3 (Kd.int .i64) A1307 C1308 l1306 :: Ass.deep 94 96 kS96 A1311 C1312 l1310 :: Ass.box 53 g6435 [.int .i32 ((l1301.getD x6105.toNat zS53).f0.f0), .int .i64 ((l1301.getD x6105.toNat zS53).f0.f1), .int .i64 ((l1301.getD x6105.toNat zS53).f0.f2), .slice b6434.1 ((l1301.getD x6105.toNat zS53).f0.f3).length b6434.2, .int .i32 ((l1301.getD x6105.toNat zS53).f0.f4.f0), .int .i32 ((l1301.getD x6105.toNat zS53).f0.f4.f1), .int .i32 ((l1301.getD x6105.toNat zS53).f0.f4.f2), .int .i32 ((l1301.getD x6105.toNat zS53).f0.f4.f3), .int .i64 ((l1301.getD x6105.toNat zS53).f0.f5), .int .i64 ((l1301.getD x6105.toNat zS53).f0.f6), .int .u32 ((l1301.getD x6105.toNat zS53).f0.f7), .int .i64 ((l1301.getD x6105.toNat zS53).f0.f8), .int .i32 ((l1301.getD x6105.toNat zS53).f1)] :: Ass.box 49 g1300 [.slice (some ad6433) l1301.length C1303] :: Ass.own 36 kS36 A6094 C6095 x6093 :: Ass.own 36 kS36 A6098 C6099 x6097 :: Ass.own 53 kS53 A6102 C6103 x6101 :: os) (Ro.sl (Kd.int .i32) b6434.1 b6434.2 ((l1301.getD x6105.toNat zS53).f0.f3) :: Ro.sl kS53 (some ad6433) C1303 l1301 :: rs) ∧ j6462 x6461 = some (x4010, x4013, x4016, x4019)) (by kernel_rfl) ?_ (fun a w hI => ?_)
            · refine EW.region (id := 12) (ops := Cd20.r.r.r.r.l.r.l.l.r.l.l.r.r.r.r.l.ops) (by kernel_rfl) ?_
              refine EL.quick 2 [0, 1, 2, 9, 10, 11, 12, 13, 14, 51] [(0, .pointer (some ⟨g1300, 0, none⟩)), (1, .pointer (some ⟨g1305, 0, none⟩)), (2, .int .i64 (IntKind.i64.wrap (x6092 - 1))), (9, .slice A6094 x6093.length C6095), (10, .slice A6098 x6097.length C6099), (11, .slice A6102 x6101.length C6103), (12, .int .i64 x6105), (13, .pointer (some ⟨g6435, 0, none⟩)), (14, .pointer (some ⟨g6457, 0, none⟩)), (51, .bool (t6455))] (by kernel_rfl) ?_
              by_cases h6463 : t6455 = true
              · rw [if_pos h6463] at H
                refine EL.keep [0, 1, 2, 9, 10, 11, 12, 13, 14, 51] [(0, .pointer (some ⟨g1300, 0, none⟩)), (1, .pointer (some ⟨g1305, 0, none⟩)), (2, .int .i64 (IntKind.i64.wrap (x6092 - 1))), (9, .slice A6094 x6093.length C6095), (10, .slice A6098 x6097.length C6099), (11, .slice A6102 x6101.length C6103), (12, .int .i64 x6105), (13, .pointer (some ⟨g6435, 0, none⟩)), (14, .pointer (some ⟨g6457, 0, none⟩)), (51, .bool (t6455))] (by kernel_rfl) ?_
                refine EL.as' [(0, .pointer (some ⟨g1300, 0, none⟩)), (1, .pointer (some ⟨g1305, 0, none⟩)), (2, .int .i64 (IntKind.i64.wrap (x6092 - 1))), (9, .slice A6094 x6093.length C6095), (10, .slice A6098 x6097.length C6099), (11, .slice A6102 x6101.length C6103), (12, .int .i64 x6105), (13, .pointer (some ⟨g6435, 0, none⟩)), (14, .pointer (some ⟨g6457, 0, none⟩)), (51, .bool (true))] (by simp only [h6463, Bool.not_true, Bool.not_false]) ?_
                refine EL.quick 1 [0, 1, 2, 9, 10, 11, 12, 13, 51, 52] [(0, .pointer (some ⟨g1300, 0, none⟩)), (1, .pointer (some ⟨g1305, 0, none⟩)), (2, .int .i64 (IntKind.i64.wrap (x6092 - 1))), (9, .slice A6094 x6093.length C6095), (10, .slice A6098 x6097.length C6099), (11, .slice A6102 x6101.length C6103), (12, .int .i64 x6105), (13, .pointer (some ⟨g6435, 0, none⟩)), (51, .bool (true)), (52, .pointer (some ⟨g6457, 1, none⟩))] (by kernel_rfl) ?_
                refine EL.of (EO.Y (YO.loadBox hS 0 rfl 3 1 1 (.int .i64 t6454.f1) 53 (by kernel_rfl) (by kernel_rfl) (by kernel_rfl) (by kernel_rfl)) ?_)
                refine EL.quick 2 [0, 1, 2, 9, 10, 11, 12, 13, 52, 53, 54, 55] [(0, .pointer (some ⟨g1300, 0, none⟩)), (1, .pointer (some ⟨g1305, 0, none⟩)), (2, .int .i64 (IntKind.i64.wrap (x6092 - 1))), (9, .slice A6094 x6093.length C6095), (10, .slice A6098 x6097.length C6099), (11, .slice A6102 x6101.length C6103), (12, .int .i64 x6105), (13, .pointer (some ⟨g6435, 0, none⟩)), (52, .pointer (some ⟨g6457, 1, none⟩)), (53, .int .i64 t6454.f1), (54, .bool (!(decide (t6454.f1 = 0)))), (55, .bool (!(decide (t6454.f1 = 0))))] (by kernel_rfl) ?_
                refine EL.done (by kernel_rfl) ?_
                refine EQ.to ?_
                refine EQ.keep [0, 1, 2, 9, 10, 11, 12, 13, 55] [(0, .pointer (some ⟨g1300, 0, none⟩)), (1, .pointer (some ⟨g1305, 0, none⟩)), (2, .int .i64 (IntKind.i64.wrap (x6092 - 1))), (9, .slice A6094 x6093.length C6095), (10, .slice A6098 x6097.length C6099), (11, .slice A6102 x6101.length C6103), (12, .int .i64 x6105), (13, .pointer (some ⟨g6435, 0, none⟩)), (55, .bool (!(decide (t6454.f1 = 0))))] (by kernel_rfl) ?_
                exact fun a ha => ⟨!(decide (t6454.f1 = 0)), ha, (hS.re [8, 8, 8, 8, 8, 8, 8, 8, 8] [] rfl (sub_cons 0 rfl (sub_cons 1 rfl (sub_tail (sub_tail (sub_self)))))), H⟩
              · rw [if_neg h6463] at H
                refine EL.keep [0, 1, 2, 9, 10, 11, 12, 13, 14, 51] [(0, .pointer (some ⟨g1300, 0, none⟩)), (1, .pointer (some ⟨g1305, 0, none⟩)), (2, .int .i64 (IntKind.i64.wrap (x6092 - 1))), (9, .slice A6094 x6093.length C6095), (10, .slice A6098 x6097.length C6099), (11, .slice A6102 x6101.length C6103), (12, .int .i64 x6105), (13, .pointer (some ⟨g6435, 0, none⟩)), (14, .pointer (some ⟨g6457, 0, none⟩)), (51, .bool (t6455))] (by kernel_rfl) ?_
                refine EL.as' [(0, .pointer (some ⟨g1300, 0, none⟩)), (1, .pointer (some ⟨g1305, 0, none⟩)), (2, .int .i64 (IntKind.i64.wrap (x6092 - 1))), (9, .slice A6094 x6093.length C6095), (10, .slice A6098 x6097.length C6099), (11, .slice A6102 x6101.length C6103), (12, .int .i64 x6105), (13, .pointer (some ⟨g6435, 0, none⟩)), (14, .pointer (some ⟨g6457, 0, none⟩)), (51, .bool (false))] (by simp only [(Bool.eq_false_iff.2 h6463), Bool.not_true, Bool.not_false]) ?_
                refine EL.quick 4 [0, 1, 2, 9, 10, 11, 12, 13, 55] [(0, .pointer (some ⟨g1300, 0, none⟩)), (1, .pointer (some ⟨g1305, 0, none⟩)), (2, .int .i64 (IntKind.i64.wrap (x6092 - 1))), (9, .slice A6094 x6093.length C6095), (10, .slice A6098 x6097.length C6099), (11, .slice A6102 x6101.length C6103), (12, .int .i64 x6105), (13, .pointer (some ⟨g6435, 0, none⟩)), (55, .bool (false))] (by kernel_rfl) ?_
                refine EL.done (by kernel_rfl) ?_
                refine EQ.to ?_
                refine EQ.keep [0, 1, 2, 9, 10, 11, 12, 13, 55] [(0, .pointer (some ⟨g1300, 0, none⟩)), (1, .pointer (some ⟨g1305, 0, none⟩)), (2, .int .i64 (IntKind.i64.wrap (x6092 - 1))), (9, .slice A6094 x6093.length C6095), (10, .slice A6098 x6097.length C6099), (11, .slice A6102 x6101.length C6103), (12, .int .i64 x6105), (13, .pointer (some ⟨g6435, 0, none⟩)), (55, .bool (false))] (by kernel_rfl) ?_
                exact fun a ha => ⟨false, ha, (hS.re [8, 8, 8, 8, 8, 8, 8, 8, 8] [] rfl (sub_cons 0 rfl (sub_cons 1 rfl (sub_tail (sub_tail (sub_self)))))), H⟩
            · obtain ⟨x6461, ha, hS, H⟩ := hI
              rw [hj6462] at H
              (try dsimp only at H)
              refine EW.at ?_ a ha
              clear ha a
              refine EW.condP' (o := (.tmp 55)) (x := Cd20.r.r.r.r.l.r.l.l.r.l.l.r.r.r.r.r.l) (y := Cd20.r.r.r.r.l.r.l.l.r.l.l.r.r.r.r.r.r) (x6461) (by kernel_rfl) (by kernel_rfl) (fun h6464 => ?_) (fun h6464 => ?_)
              · rw [if_pos h6464] at H
                refine EW.region (id := 13) (ops := Cd20.r.r.r.r.l.r.l.l.r.l.l.r.r.r.r.r.l.ops) (by kernel_rfl) ?_
                refine EL.quick 2 [0, 1, 2, 10, 11, 12, 56, 57] [(0, .pointer (some ⟨g1300, 0, none⟩)), (1, .pointer (some ⟨g1305, 0, none⟩)), (2, .int .i64 (IntKind.i64.wrap (x6092 - 1))), (10, .slice A6098 x6097.length C6099), (11, .slice A6102 x6101.length C6103), (12, .int .i64 x6105), (56, .slice A6094 x6093.length C6095), (57, .pointer (some ⟨g6435, 0, none⟩))] (by kernel_rfl) ?_
                refine EL.of (EO.Y (YO.loadBox hS 4 rfl 36 0 12 (.agg #[.int .i32 ((l1301.getD x6105.toNat zS53).f0.f0), .int .i64 ((l1301.getD x6105.toNat zS53).f0.f1), .int .i64 ((l1301.getD x6105.toNat zS53).f0.f2), .slice b6434.1 ((l1301.getD x6105.toNat zS53).f0.f3).length b6434.2, .int .i32 ((l1301.getD x6105.toNat zS53).f0.f4.f0), .int .i32 ((l1301.getD x6105.toNat zS53).f0.f4.f1), .int .i32 ((l1301.getD x6105.toNat zS53).f0.f4.f2), .int .i32 ((l1301.getD x6105.toNat zS53).f0.f4.f3), .int .i64 ((l1301.getD x6105.toNat zS53).f0.f5), .int .i64 ((l1301.getD x6105.toNat zS53).f0.f6), .int .u32 ((l1301.getD x6105.toNat zS53).f0.f7), .int .i64 ((l1301.getD x6105.toNat zS53).f0.f8)]) 58 (by kernel_rfl) (by kernel_rfl) (by kernel_rfl) (by kernel_rfl)) ?_)
                obtain ⟨l6466, hl6466, H⟩ := lt_out H
                refine EL.of (EO.lit hS kS36 36 37 1 #[(0, .agg #[.int .i32 ((l1301.getD x6105.toNat zS53).f0.f0), .int .i64 ((l1301.getD x6105.toNat zS53).f0.f1), .int .i64 ((l1301.getD x6105.toNat zS53).f0.f2), .slice b6434.1 ((l1301.getD x6105.toNat zS53).f0.f3).length b6434.2, .int .i32 ((l1301.getD x6105.toNat zS53).f0.f4.f0), .int .i32 ((l1301.getD x6105.toNat zS53).f0.f4.f1), .int .i32 ((l1301.getD x6105.toNat zS53).f0.f4.f2), .int .i32 ((l1301.getD x6105.toNat zS53).f0.f4.f3), .int .i64 ((l1301.getD x6105.toNat zS53).f0.f5), .int .i64 ((l1301.getD x6105.toNat zS53).f0.f6), .int .u32 ((l1301.getD x6105.toNat zS53).f0.f7), .int .i64 ((l1301.getD x6105.toNat zS53).f0.f8)])] [.int .i32 ((l1301.getD x6105.toNat zS53).f0.f0), .int .i64 ((l1301.getD x6105.toNat zS53).f0.f1), .int .i64 ((l1301.getD x6105.toNat zS53).f0.f2), .slice b6434.1 ((l1301.getD x6105.toNat zS53).f0.f3).length b6434.2, .int .i32 ((l1301.getD x6105.toNat zS53).f0.f4.f0), .int .i32 ((l1301.getD x6105.toNat zS53).f0.f4.f1), .int .i32 ((l1301.getD x6105.toNat zS53).f0.f4.f2), .int .i32 ((l1301.getD x6105.toNat zS53).f0.f4.f3), .int .i64 ((l1301.getD x6105.toNat zS53).f0.f5), .int .i64 ((l1301.getD x6105.toNat zS53).f0.f6), .int .u32 ((l1301.getD x6105.toNat zS53).f0.f7), .int .i64 ((l1301.getD x6105.toNat zS53).f0.f8)] l6466 59 (by kernel_rfl) (by kernel_rfl) (by kernel_rfl) (fun _ => (by kernel_rfl)) (by rw [hl6466]; rfl) (by kernel_rfl) (fun w G hr => (by rw [hl6466]; exact ⟨[.int .i32 ((l1301.getD x6105.toNat zS53).f0.f0), .int .i64 ((l1301.getD x6105.toNat zS53).f0.f1), .int .i64 ((l1301.getD x6105.toNat zS53).f0.f2), .slice b6434.1 ((l1301.getD x6105.toNat zS53).f0.f3).length b6434.2, .int .i32 ((l1301.getD x6105.toNat zS53).f0.f4.f0), .int .i32 ((l1301.getD x6105.toNat zS53).f0.f4.f1), .int .i32 ((l1301.getD x6105.toNat zS53).f0.f4.f2), .int .i32 ((l1301.getD x6105.toNat zS53).f0.f4.f3), .int .i64 ((l1301.getD x6105.toNat zS53).f0.f5), .int .i64 ((l1301.getD x6105.toNat zS53).f0.f6), .int .u32 ((l1301.getD x6105.toNat zS53).f0.f7), .int .i64 ((l1301.getD x6105.toNat zS53).f0.f8)], [], rfl, ⟨[.int .i32 ((l1301.getD x6105.toNat zS53).f0.f0)], [.int .i64 ((l1301.getD x6105.toNat zS53).f0.f1), .int .i64 ((l1301.getD x6105.toNat zS53).f0.f2), .slice b6434.1 ((l1301.getD x6105.toNat zS53).f0.f3).length b6434.2, .int .i32 ((l1301.getD x6105.toNat zS53).f0.f4.f0), .int .i32 ((l1301.getD x6105.toNat zS53).f0.f4.f1), .int .i32 ((l1301.getD x6105.toNat zS53).f0.f4.f2), .int .i32 ((l1301.getD x6105.toNat zS53).f0.f4.f3), .int .i64 ((l1301.getD x6105.toNat zS53).f0.f5), .int .i64 ((l1301.getD x6105.toNat zS53).f0.f6), .int .u32 ((l1301.getD x6105.toNat zS53).f0.f7), .int .i64 ((l1301.getD x6105.toNat zS53).f0.f8)], rfl, rfl, ⟨[.int .i64 ((l1301.getD x6105.toNat zS53).f0.f1)], [.int .i64 ((l1301.getD x6105.toNat zS53).f0.f2), .slice b6434.1 ((l1301.getD x6105.toNat zS53).f0.f3).length b6434.2, .int .i32 ((l1301.getD x6105.toNat zS53).f0.f4.f0), .int .i32 ((l1301.getD x6105.toNat zS53).f0.f4.f1), .int .i32 ((l1301.getD x6105.toNat zS53).f0.f4.f2), .int .i32 ((l1301.getD x6105.toNat zS53).f0.f4.f3), .int .i64 ((l1301.getD x6105.toNat zS53).f0.f5), .int .i64 ((l1301.getD x6105.toNat zS53).f0.f6), .int .u32 ((l1301.getD x6105.toNat zS53).f0.f7), .int .i64 ((l1301.getD x6105.toNat zS53).f0.f8)], rfl, rfl, ⟨[.int .i64 ((l1301.getD x6105.toNat zS53).f0.f2)], [.slice b6434.1 ((l1301.getD x6105.toNat zS53).f0.f3).length b6434.2, .int .i32 ((l1301.getD x6105.toNat zS53).f0.f4.f0), .int .i32 ((l1301.getD x6105.toNat zS53).f0.f4.f1), .int .i32 ((l1301.getD x6105.toNat zS53).f0.f4.f2), .int .i32 ((l1301.getD x6105.toNat zS53).f0.f4.f3), .int .i64 ((l1301.getD x6105.toNat zS53).f0.f5), .int .i64 ((l1301.getD x6105.toNat zS53).f0.f6), .int .u32 ((l1301.getD x6105.toNat zS53).f0.f7), .int .i64 ((l1301.getD x6105.toNat zS53).f0.f8)], rfl, rfl, ⟨[.slice b6434.1 ((l1301.getD x6105.toNat zS53).f0.f3).length b6434.2], [.int .i32 ((l1301.getD x6105.toNat zS53).f0.f4.f0), .int .i32 ((l1301.getD x6105.toNat zS53).f0.f4.f1), .int .i32 ((l1301.getD x6105.toNat zS53).f0.f4.f2), .int .i32 ((l1301.getD x6105.toNat zS53).f0.f4.f3), .int .i64 ((l1301.getD x6105.toNat zS53).f0.f5), .int .i64 ((l1301.getD x6105.toNat zS53).f0.f6), .int .u32 ((l1301.getD x6105.toNat zS53).f0.f7), .int .i64 ((l1301.getD x6105.toNat zS53).f0.f8)], rfl, (hr _ (List.mem_of_getElem? (i := 0) rfl)), ⟨[.int .i32 ((l1301.getD x6105.toNat zS53).f0.f4.f0), .int .i32 ((l1301.getD x6105.toNat zS53).f0.f4.f1), .int .i32 ((l1301.getD x6105.toNat zS53).f0.f4.f2), .int .i32 ((l1301.getD x6105.toNat zS53).f0.f4.f3)], [.int .i64 ((l1301.getD x6105.toNat zS53).f0.f5), .int .i64 ((l1301.getD x6105.toNat zS53).f0.f6), .int .u32 ((l1301.getD x6105.toNat zS53).f0.f7), .int .i64 ((l1301.getD x6105.toNat zS53).f0.f8)], rfl, ⟨[.int .i32 ((l1301.getD x6105.toNat zS53).f0.f4.f0)], [.int .i32 ((l1301.getD x6105.toNat zS53).f0.f4.f1), .int .i32 ((l1301.getD x6105.toNat zS53).f0.f4.f2), .int .i32 ((l1301.getD x6105.toNat zS53).f0.f4.f3)], rfl, rfl, ⟨[.int .i32 ((l1301.getD x6105.toNat zS53).f0.f4.f1)], [.int .i32 ((l1301.getD x6105.toNat zS53).f0.f4.f2), .int .i32 ((l1301.getD x6105.toNat zS53).f0.f4.f3)], rfl, rfl, ⟨[.int .i32 ((l1301.getD x6105.toNat zS53).f0.f4.f2)], [.int .i32 ((l1301.getD x6105.toNat zS53).f0.f4.f3)], rfl, rfl, ⟨[.int .i32 ((l1301.getD x6105.toNat zS53).f0.f4.f3)], [], rfl, rfl, rfl⟩⟩⟩⟩, ⟨[.int .i64 ((l1301.getD x6105.toNat zS53).f0.f5)], [.int .i64 ((l1301.getD x6105.toNat zS53).f0.f6), .int .u32 ((l1301.getD x6105.toNat zS53).f0.f7), .int .i64 ((l1301.getD x6105.toNat zS53).f0.f8)], rfl, rfl, ⟨[.int .i64 ((l1301.getD x6105.toNat zS53).f0.f6)], [.int .u32 ((l1301.getD x6105.toNat zS53).f0.f7), .int .i64 ((l1301.getD x6105.toNat zS53).f0.f8)], rfl, rfl, ⟨[.int .u32 ((l1301.getD x6105.toNat zS53).f0.f7)], [.int .i64 ((l1301.getD x6105.toNat zS53).f0.f8)], rfl, rfl, ⟨[.int .i64 ((l1301.getD x6105.toNat zS53).f0.f8)], [], rfl, rfl, rfl⟩⟩⟩⟩⟩⟩⟩⟩⟩, rfl⟩)) ?_)
                intro g6465 w hS
                obtain ⟨h6467, H⟩ := ite_in H
                obtain ⟨l6468, hl6468, H⟩ := lt_out H
                refine EL.of (EO.append hS 37 37 36 96 7 kS36 A6094 C6095 x6093 rfl (some ⟨g6465, 0, none⟩) 1 l6466 (Rd.own 0 36 rfl) l6468 hl6468 (fun A6469 C6470 => Ass.own 36 kS36 (some ⟨g6465, 0, none⟩) 1 l6466 :: Ass.box 96 g6457 [.int .i64 t6454.f0, .int .i64 t6454.f1, .int .i32 t6454.f2, .int .i64 t6454.f3] :: Ass.box 105 g1305 [.slice A1307 l1306.length C1308, .slice A1311 l1310.length C1312] :: Ass.own 3 (Kd.int .i64) A1307 C1308 l1306 :: Ass.deep 94 96 kS96 A1311 C1312 l1310 :: Ass.box 53 g6435 [.int .i32 ((l1301.getD x6105.toNat zS53).f0.f0), .int .i64 ((l1301.getD x6105.toNat zS53).f0.f1), .int .i64 ((l1301.getD x6105.toNat zS53).f0.f2), .slice b6434.1 ((l1301.getD x6105.toNat zS53).f0.f3).length b6434.2, .int .i32 ((l1301.getD x6105.toNat zS53).f0.f4.f0), .int .i32 ((l1301.getD x6105.toNat zS53).f0.f4.f1), .int .i32 ((l1301.getD x6105.toNat zS53).f0.f4.f2), .int .i32 ((l1301.getD x6105.toNat zS53).f0.f4.f3), .int .i64 ((l1301.getD x6105.toNat zS53).f0.f5), .int .i64 ((l1301.getD x6105.toNat zS53).f0.f6), .int .u32 ((l1301.getD x6105.toNat zS53).f0.f7), .int .i64 ((l1301.getD x6105.toNat zS53).f0.f8), .int .i32 ((l1301.getD x6105.toNat zS53).f1)] :: Ass.box 49 g1300 [.slice (some ad6433) l1301.length C1303] :: Ass.own 36 kS36 A6469 C6470 l6468 :: Ass.own 36 kS36 A6098 C6099 x6097 :: Ass.own 53 kS53 A6102 C6103 x6101 :: os) 60 (by kernel_rfl) (by kernel_rfl) (by kernel_rfl) (by kernel_rfl) h6467 (fun _ _ => rfl) ?_)
                intro A6469 C6470 w hS
                refine EL.quick 1 [0, 1, 2, 9, 10, 11, 12] [(0, .pointer (some ⟨g1300, 0, none⟩)), (1, .pointer (some ⟨g1305, 0, none⟩)), (2, .int .i64 (IntKind.i64.wrap (x6092 - 1))), (9, .slice A6469 l6468.length C6470), (10, .slice A6098 x6097.length C6099), (11, .slice A6102 x6101.length C6103), (12, .int .i64 x6105)] (by kernel_rfl) ?_
                refine EL.done (by kernel_rfl) ?_
                refine EQ.pop ?_
                refine EQ.to ?_
                refine EQ.keep [0, 1, 2, 9, 10, 11, 12] [(0, .pointer (some ⟨g1300, 0, none⟩)), (1, .pointer (some ⟨g1305, 0, none⟩)), (2, .int .i64 (IntKind.i64.wrap (x6092 - 1))), (9, .slice A6469 l6468.length C6470), (10, .slice A6098 x6097.length C6099), (11, .slice A6102 x6101.length C6103), (12, .int .i64 x6105)] (by kernel_rfl) ?_
                exact fun a ha => ⟨l6468, x6097, x6101, IntKind.i64.wrap (x6092 - 1), g6435, b6434.1, b6434.2, A6469, C6470, A6098, C6099, A6102, C6103, ha, (hS.re [9, 9, 9, 7, 7, 7, 9, 9] [8, 8] rfl (sub_cons 0 rfl (sub_cons 1 rfl (sub_tail (sub_tail (sub_self)))))), H⟩
              · rw [if_neg h6464] at H
                refine EW.region (id := 14) (ops := Cd20.r.r.r.r.l.r.l.l.r.l.l.r.r.r.r.r.r.ops) (by kernel_rfl) ?_
                refine EL.quick 1 [0, 1, 2, 9, 10, 12, 13, 61] [(0, .pointer (some ⟨g1300, 0, none⟩)), (1, .pointer (some ⟨g1305, 0, none⟩)), (2, .int .i64 (IntKind.i64.wrap (x6092 - 1))), (9, .slice A6094 x6093.length C6095), (10, .slice A6098 x6097.length C6099), (12, .int .i64 x6105), (13, .pointer (some ⟨g6435, 0, none⟩)), (61, .slice A6102 x6101.length C6103)] (by kernel_rfl) ?_
                refine EL.of (EO.Y (YO.loadBox hS 4 rfl 53 0 13 (.agg #[.int .i32 ((l1301.getD x6105.toNat zS53).f0.f0), .int .i64 ((l1301.getD x6105.toNat zS53).f0.f1), .int .i64 ((l1301.getD x6105.toNat zS53).f0.f2), .slice b6434.1 ((l1301.getD x6105.toNat zS53).f0.f3).length b6434.2, .int .i32 ((l1301.getD x6105.toNat zS53).f0.f4.f0), .int .i32 ((l1301.getD x6105.toNat zS53).f0.f4.f1), .int .i32 ((l1301.getD x6105.toNat zS53).f0.f4.f2), .int .i32 ((l1301.getD x6105.toNat zS53).f0.f4.f3), .int .i64 ((l1301.getD x6105.toNat zS53).f0.f5), .int .i64 ((l1301.getD x6105.toNat zS53).f0.f6), .int .u32 ((l1301.getD x6105.toNat zS53).f0.f7), .int .i64 ((l1301.getD x6105.toNat zS53).f0.f8), .int .i32 ((l1301.getD x6105.toNat zS53).f1)]) 62 (by kernel_rfl) (by kernel_rfl) (by kernel_rfl) (by kernel_rfl)) ?_)
                obtain ⟨l6472, hl6472, H⟩ := lt_out H
                refine EL.of (EO.lit hS kS53 53 47 1 #[(0, .agg #[.int .i32 ((l1301.getD x6105.toNat zS53).f0.f0), .int .i64 ((l1301.getD x6105.toNat zS53).f0.f1), .int .i64 ((l1301.getD x6105.toNat zS53).f0.f2), .slice b6434.1 ((l1301.getD x6105.toNat zS53).f0.f3).length b6434.2, .int .i32 ((l1301.getD x6105.toNat zS53).f0.f4.f0), .int .i32 ((l1301.getD x6105.toNat zS53).f0.f4.f1), .int .i32 ((l1301.getD x6105.toNat zS53).f0.f4.f2), .int .i32 ((l1301.getD x6105.toNat zS53).f0.f4.f3), .int .i64 ((l1301.getD x6105.toNat zS53).f0.f5), .int .i64 ((l1301.getD x6105.toNat zS53).f0.f6), .int .u32 ((l1301.getD x6105.toNat zS53).f0.f7), .int .i64 ((l1301.getD x6105.toNat zS53).f0.f8), .int .i32 ((l1301.getD x6105.toNat zS53).f1)])] [.int .i32 ((l1301.getD x6105.toNat zS53).f0.f0), .int .i64 ((l1301.getD x6105.toNat zS53).f0.f1), .int .i64 ((l1301.getD x6105.toNat zS53).f0.f2), .slice b6434.1 ((l1301.getD x6105.toNat zS53).f0.f3).length b6434.2, .int .i32 ((l1301.getD x6105.toNat zS53).f0.f4.f0), .int .i32 ((l1301.getD x6105.toNat zS53).f0.f4.f1), .int .i32 ((l1301.getD x6105.toNat zS53).f0.f4.f2), .int .i32 ((l1301.getD x6105.toNat zS53).f0.f4.f3), .int .i64 ((l1301.getD x6105.toNat zS53).f0.f5), .int .i64 ((l1301.getD x6105.toNat zS53).f0.f6), .int .u32 ((l1301.getD x6105.toNat zS53).f0.f7), .int .i64 ((l1301.getD x6105.toNat zS53).f0.f8), .int .i32 ((l1301.getD x6105.toNat zS53).f1)] l6472 63 (by kernel_rfl) (by kernel_rfl) (by kernel_rfl) (fun _ => (by kernel_rfl)) (by rw [hl6472]; rfl) (by kernel_rfl) (fun w G hr => (by rw [hl6472]; exact ⟨[.int .i32 ((l1301.getD x6105.toNat zS53).f0.f0), .int .i64 ((l1301.getD x6105.toNat zS53).f0.f1), .int .i64 ((l1301.getD x6105.toNat zS53).f0.f2), .slice b6434.1 ((l1301.getD x6105.toNat zS53).f0.f3).length b6434.2, .int .i32 ((l1301.getD x6105.toNat zS53).f0.f4.f0), .int .i32 ((l1301.getD x6105.toNat zS53).f0.f4.f1), .int .i32 ((l1301.getD x6105.toNat zS53).f0.f4.f2), .int .i32 ((l1301.getD x6105.toNat zS53).f0.f4.f3), .int .i64 ((l1301.getD x6105.toNat zS53).f0.f5), .int .i64 ((l1301.getD x6105.toNat zS53).f0.f6), .int .u32 ((l1301.getD x6105.toNat zS53).f0.f7), .int .i64 ((l1301.getD x6105.toNat zS53).f0.f8), .int .i32 ((l1301.getD x6105.toNat zS53).f1)], [], rfl, ⟨[.int .i32 ((l1301.getD x6105.toNat zS53).f0.f0), .int .i64 ((l1301.getD x6105.toNat zS53).f0.f1), .int .i64 ((l1301.getD x6105.toNat zS53).f0.f2), .slice b6434.1 ((l1301.getD x6105.toNat zS53).f0.f3).length b6434.2, .int .i32 ((l1301.getD x6105.toNat zS53).f0.f4.f0), .int .i32 ((l1301.getD x6105.toNat zS53).f0.f4.f1), .int .i32 ((l1301.getD x6105.toNat zS53).f0.f4.f2), .int .i32 ((l1301.getD x6105.toNat zS53).f0.f4.f3), .int .i64 ((l1301.getD x6105.toNat zS53).f0.f5), .int .i64 ((l1301.getD x6105.toNat zS53).f0.f6), .int .u32 ((l1301.getD x6105.toNat zS53).f0.f7), .int .i64 ((l1301.getD x6105.toNat zS53).f0.f8)], [.int .i32 ((l1301.getD x6105.toNat zS53).f1)], rfl, ⟨[.int .i32 ((l1301.getD x6105.toNat zS53).f0.f0)], [.int .i64 ((l1301.getD x6105.toNat zS53).f0.f1), .int .i64 ((l1301.getD x6105.toNat zS53).f0.f2), .slice b6434.1 ((l1301.getD x6105.toNat zS53).f0.f3).length b6434.2, .int .i32 ((l1301.getD x6105.toNat zS53).f0.f4.f0), .int .i32 ((l1301.getD x6105.toNat zS53).f0.f4.f1), .int .i32 ((l1301.getD x6105.toNat zS53).f0.f4.f2), .int .i32 ((l1301.getD x6105.toNat zS53).f0.f4.f3), .int .i64 ((l1301.getD x6105.toNat zS53).f0.f5), .int .i64 ((l1301.getD x6105.toNat zS53).f0.f6), .int .u32 ((l1301.getD x6105.toNat zS53).f0.f7), .int .i64 ((l1301.getD x6105.toNat zS53).f0.f8)], rfl, rfl, ⟨[.int .i64 ((l1301.getD x6105.toNat zS53).f0.f1)], [.int .i64 ((l1301.getD x6105.toNat zS53).f0.f2), .slice b6434.1 ((l1301.getD x6105.toNat zS53).f0.f3).length b6434.2, .int .i32 ((l1301.getD x6105.toNat zS53).f0.f4.f0), .int .i32 ((l1301.getD x6105.toNat zS53).f0.f4.f1), .int .i32 ((l1301.getD x6105.toNat zS53).f0.f4.f2), .int .i32 ((l1301.getD x6105.toNat zS53).f0.f4.f3), .int .i64 ((l1301.getD x6105.toNat zS53).f0.f5), .int .i64 ((l1301.getD x6105.toNat zS53).f0.f6), .int .u32 ((l1301.getD x6105.toNat zS53).f0.f7), .int .i64 ((l1301.getD x6105.toNat zS53).f0.f8)], rfl, rfl, ⟨[.int .i64 ((l1301.getD x6105.toNat zS53).f0.f2)], [.slice b6434.1 ((l1301.getD x6105.toNat zS53).f0.f3).length b6434.2, .int .i32 ((l1301.getD x6105.toNat zS53).f0.f4.f0), .int .i32 ((l1301.getD x6105.toNat zS53).f0.f4.f1), .int .i32 ((l1301.getD x6105.toNat zS53).f0.f4.f2), .int .i32 ((l1301.getD x6105.toNat zS53).f0.f4.f3), .int .i64 ((l1301.getD x6105.toNat zS53).f0.f5), .int .i64 ((l1301.getD x6105.toNat zS53).f0.f6), .int .u32 ((l1301.getD x6105.toNat zS53).f0.f7), .int .i64 ((l1301.getD x6105.toNat zS53).f0.f8)], rfl, rfl, ⟨[.slice b6434.1 ((l1301.getD x6105.toNat zS53).f0.f3).length b6434.2], [.int .i32 ((l1301.getD x6105.toNat zS53).f0.f4.f0), .int .i32 ((l1301.getD x6105.toNat zS53).f0.f4.f1), .int .i32 ((l1301.getD x6105.toNat zS53).f0.f4.f2), .int .i32 ((l1301.getD x6105.toNat zS53).f0.f4.f3), .int .i64 ((l1301.getD x6105.toNat zS53).f0.f5), .int .i64 ((l1301.getD x6105.toNat zS53).f0.f6), .int .u32 ((l1301.getD x6105.toNat zS53).f0.f7), .int .i64 ((l1301.getD x6105.toNat zS53).f0.f8)], rfl, (hr _ (List.mem_of_getElem? (i := 0) rfl)), ⟨[.int .i32 ((l1301.getD x6105.toNat zS53).f0.f4.f0), .int .i32 ((l1301.getD x6105.toNat zS53).f0.f4.f1), .int .i32 ((l1301.getD x6105.toNat zS53).f0.f4.f2), .int .i32 ((l1301.getD x6105.toNat zS53).f0.f4.f3)], [.int .i64 ((l1301.getD x6105.toNat zS53).f0.f5), .int .i64 ((l1301.getD x6105.toNat zS53).f0.f6), .int .u32 ((l1301.getD x6105.toNat zS53).f0.f7), .int .i64 ((l1301.getD x6105.toNat zS53).f0.f8)], rfl, ⟨[.int .i32 ((l1301.getD x6105.toNat zS53).f0.f4.f0)], [.int .i32 ((l1301.getD x6105.toNat zS53).f0.f4.f1), .int .i32 ((l1301.getD x6105.toNat zS53).f0.f4.f2), .int .i32 ((l1301.getD x6105.toNat zS53).f0.f4.f3)], rfl, rfl, ⟨[.int .i32 ((l1301.getD x6105.toNat zS53).f0.f4.f1)], [.int .i32 ((l1301.getD x6105.toNat zS53).f0.f4.f2), .int .i32 ((l1301.getD x6105.toNat zS53).f0.f4.f3)], rfl, rfl, ⟨[.int .i32 ((l1301.getD x6105.toNat zS53).f0.f4.f2)], [.int .i32 ((l1301.getD x6105.toNat zS53).f0.f4.f3)], rfl, rfl, ⟨[.int .i32 ((l1301.getD x6105.toNat zS53).f0.f4.f3)], [], rfl, rfl, rfl⟩⟩⟩⟩, ⟨[.int .i64 ((l1301.getD x6105.toNat zS53).f0.f5)], [.int .i64 ((l1301.getD x6105.toNat zS53).f0.f6), .int .u32 ((l1301.getD x6105.toNat zS53).f0.f7), .int .i64 ((l1301.getD x6105.toNat zS53).f0.f8)], rfl, rfl, ⟨[.int .i64 ((l1301.getD x6105.toNat zS53).f0.f6)], [.int .u32 ((l1301.getD x6105.toNat zS53).f0.f7), .int .i64 ((l1301.getD x6105.toNat zS53).f0.f8)], rfl, rfl, ⟨[.int .u32 ((l1301.getD x6105.toNat zS53).f0.f7)], [.int .i64 ((l1301.getD x6105.toNat zS53).f0.f8)], rfl, rfl, ⟨[.int .i64 ((l1301.getD x6105.toNat zS53).f0.f8)], [], rfl, rfl, rfl⟩⟩⟩⟩⟩⟩⟩⟩⟩, ⟨[.int .i32 ((l1301.getD x6105.toNat zS53).f1)], [], rfl, rfl, rfl⟩⟩, rfl⟩)) ?_)
                intro g6471 w hS
                obtain ⟨h6473, H⟩ := ite_in H
                obtain ⟨l6474, hl6474, H⟩ := lt_out H
                refine EL.of (EO.append hS 47 47 53 104 9 kS53 A6102 C6103 x6101 rfl (some ⟨g6471, 0, none⟩) 1 l6472 (Rd.own 0 53 rfl) l6474 hl6474 (fun A6475 C6476 => Ass.own 53 kS53 (some ⟨g6471, 0, none⟩) 1 l6472 :: Ass.box 96 g6457 [.int .i64 t6454.f0, .int .i64 t6454.f1, .int .i32 t6454.f2, .int .i64 t6454.f3] :: Ass.box 105 g1305 [.slice A1307 l1306.length C1308, .slice A1311 l1310.length C1312] :: Ass.own 3 (Kd.int .i64) A1307 C1308 l1306 :: Ass.deep 94 96 kS96 A1311 C1312 l1310 :: Ass.box 53 g6435 [.int .i32 ((l1301.getD x6105.toNat zS53).f0.f0), .int .i64 ((l1301.getD x6105.toNat zS53).f0.f1), .int .i64 ((l1301.getD x6105.toNat zS53).f0.f2), .slice b6434.1 ((l1301.getD x6105.toNat zS53).f0.f3).length b6434.2, .int .i32 ((l1301.getD x6105.toNat zS53).f0.f4.f0), .int .i32 ((l1301.getD x6105.toNat zS53).f0.f4.f1), .int .i32 ((l1301.getD x6105.toNat zS53).f0.f4.f2), .int .i32 ((l1301.getD x6105.toNat zS53).f0.f4.f3), .int .i64 ((l1301.getD x6105.toNat zS53).f0.f5), .int .i64 ((l1301.getD x6105.toNat zS53).f0.f6), .int .u32 ((l1301.getD x6105.toNat zS53).f0.f7), .int .i64 ((l1301.getD x6105.toNat zS53).f0.f8), .int .i32 ((l1301.getD x6105.toNat zS53).f1)] :: Ass.box 49 g1300 [.slice (some ad6433) l1301.length C1303] :: Ass.own 36 kS36 A6094 C6095 x6093 :: Ass.own 36 kS36 A6098 C6099 x6097 :: Ass.own 53 kS53 A6475 C6476 l6474 :: os) 64 (by kernel_rfl) (by kernel_rfl) (by kernel_rfl) (by kernel_rfl) h6473 (fun _ _ => rfl) ?_)
                intro A6475 C6476 w hS
                refine EL.quick 1 [0, 1, 2, 9, 10, 11, 12] [(0, .pointer (some ⟨g1300, 0, none⟩)), (1, .pointer (some ⟨g1305, 0, none⟩)), (2, .int .i64 (IntKind.i64.wrap (x6092 - 1))), (9, .slice A6094 x6093.length C6095), (10, .slice A6098 x6097.length C6099), (11, .slice A6475 l6474.length C6476), (12, .int .i64 x6105)] (by kernel_rfl) ?_
                refine EL.done (by kernel_rfl) ?_
                refine EQ.pop ?_
                refine EQ.to ?_
                refine EQ.keep [0, 1, 2, 9, 10, 11, 12] [(0, .pointer (some ⟨g1300, 0, none⟩)), (1, .pointer (some ⟨g1305, 0, none⟩)), (2, .int .i64 (IntKind.i64.wrap (x6092 - 1))), (9, .slice A6094 x6093.length C6095), (10, .slice A6098 x6097.length C6099), (11, .slice A6475 l6474.length C6476), (12, .int .i64 x6105)] (by kernel_rfl) ?_
                exact fun a ha => ⟨x6093, x6097, l6474, IntKind.i64.wrap (x6092 - 1), g6435, b6434.1, b6434.2, A6094, C6095, A6098, C6099, A6475, C6476, ha, (hS.re [9, 9, 9, 7, 7, 7, 9, 9] [8, 8] rfl (sub_cons 0 rfl (sub_cons 1 rfl (sub_tail (sub_tail (sub_self)))))), H⟩
        · obtain ⟨x6417, x6420, x6423, x6426, g6414, A6415, C6416, A6418, C6419, A6421, C6422, A6424, C6425, ha, hS, H⟩ := hI
          rw [hj6427] at H
          (try dsimp only at H)
          refine EW.at ?_ a ha
          clear ha a
          refine EW.region (id := 6) (ops := Cd20.r.r.r.r.l.r.l.l.r.r.ops) (by kernel_rfl) ?_
          refine EL.quick 3 [0, 1, 2, 9, 10, 11, 12] [(0, .pointer (some ⟨g1300, 0, none⟩)), (1, .pointer (some ⟨g1305, 0, none⟩)), (2, .int .i64 x6426), (9, .slice A6418 x6417.length C6419), (10, .slice A6421 x6420.length C6422), (11, .slice A6424 x6423.length C6425), (12, .int .i64 (IntKind.i64.wrap (x6105 + 1)))] (by kernel_rfl) ?_
          refine EL.done (by kernel_rfl) ?_
          refine EQ.to ?_
          refine EQ.keep [0, 1, 2, 9, 10, 11, 12] [(0, .pointer (some ⟨g1300, 0, none⟩)), (1, .pointer (some ⟨g1305, 0, none⟩)), (2, .int .i64 x6426), (9, .slice A6418 x6417.length C6419), (10, .slice A6421 x6420.length C6422), (11, .slice A6424 x6423.length C6425), (12, .int .i64 (IntKind.i64.wrap (x6105 + 1)))] (by kernel_rfl) ?_
          exact fun a ha => ⟨n, Nat.lt_succ_self n, x6426, x6417, x6420, x6423, IntKind.i64.wrap (x6105 + 1), A6418, C6419, A6421, C6422, A6424, C6425, ha, (hS.re [7, 7, 7, 7, 7, 7, 7] [7] rfl (sub_cons 1 rfl (sub_tail (sub_tail (sub_self))))), H⟩
      · rw [if_neg h6305] at H
        refine EW.exit (id := 0) (by kernel_rfl) ?_
        refine EQ.exitCode ?_
        refine EQ.exitTo ?_
        refine EQ.exitHere ?_
        refine EQ.to ?_
        refine EQ.keep [0, 2, 9, 10, 11] [(0, .pointer (some ⟨g1300, 0, none⟩)), (2, .int .i64 x6092), (9, .slice A6094 x6093.length C6095), (10, .slice A6098 x6097.length C6099), (11, .slice A6102 x6101.length C6103)] (by kernel_rfl) ?_
        exact fun a ha => ⟨x6092, x6093, x6097, x6101, A6094, C6095, A6098, C6099, A6102, C6103, ha, (hS.re [6, 6, 6, 6, 6, 6, 6] [] rfl (sub_cons 0 rfl (sub_tail (sub_self)))), H⟩
  · obtain ⟨x5652, x5653, x5658, x5663, A5654, C5655, A5659, C5660, A5664, C5665, ha, hS, H⟩ := hI
    rw [hj5668] at H
    (try dsimp only at H)
    refine EW.at ?_ a ha
    clear ha a
    refine EW.seq (x := Cd20.r.r.r.r.r.l) (y := Cd20.r.r.r.r.r.r) (by kernel_rfl) ?_
    refine EW.region (id := 15) (ops := Cd20.r.r.r.r.r.l.ops) (by kernel_rfl) ?_
    refine EL.quick 4 [2, 9, 10, 66, 68] [(2, .int .i64 x5652), (9, .slice A5654 x5653.length C5655), (10, .slice A5659 x5658.length C5660), (66, .slice A5664 x5663.length C5665), (68, .pointer (some ⟨g1300, 0, none⟩))] (by kernel_rfl) ?_
    refine EL.of (EO.storeBox (os' := Ass.box 49 g1300 [.slice A5664 x5663.length C5665] :: Ass.box 105 g1305 [.slice A1307 l1306.length C1308, .slice A1311 l1310.length C1312] :: Ass.own 3 (Kd.int .i64) A1307 C1308 l1306 :: Ass.deep 94 96 kS96 A1311 C1312 l1310 :: Ass.own 36 kS36 A5654 C5655 x5653 :: Ass.own 36 kS36 A5659 C5660 x5658 :: Ass.own 53 kS53 A5664 C5665 x5663 :: os) hS 0 rfl 47 0 (.slice A5664 x5663.length C5665) [.slice A5664 x5663.length C5665] (by kernel_rfl) (by kernel_rfl) (by kernel_rfl) (by kernel_rfl) (by kernel_rfl) (by kernel_rfl) rfl rfl ?_)
    intro w hS
    refine EL.done (by kernel_rfl) ?_
    refine EQ.code ?_
    refine EW.seq (x := Cd20.r.r.r.r.r.r.l) (y := Cd20.r.r.r.r.r.r.r) (by kernel_rfl) ?_
    refine EW.region (id := 16) (ops := Cd20.r.r.r.r.r.r.l.ops) (by kernel_rfl) ?_
    refine EL.quick 6 [6, 7, 8] [(6, .slice A5654 x5653.length C5655), (7, .slice A5659 x5658.length C5660), (8, .int .i64 x5652)] (by kernel_rfl) ?_
    refine EL.done (by kernel_rfl) ?_
    refine EQ.code ?_
    refine EW.ret (by kernel_rfl) ?_
    simp only [Option.some.injEq, Prod.mk.injEq] at H
    obtain ⟨rfl, rfl, rfl, rfl⟩ := H
    exact EQ.leave (.tuple #[.slice A5654 x5653.length C5655, .slice A5659 x5658.length C5660, .int .i64 x5652]) (by kernel_rfl) ⟨_, rfl, A5664, C5665, A5654, C5655, A5659, C5660, rfl, (hS.re [5, 5, 6, 6, 6, 6, 6] [] rfl (sub_self))⟩

/-! ### confidant/confidantref9.SameInts: function 50 -/
def confidantref9_SameInts.l0 (K : Nat) (l6549 : List Int) (l6552 : List Int) : Nat → Int → Option Bool
  | 0, _ => none
  | n + 1, x6639 => if x6639 < (l6549.length : Int) then (if 0 ≤ x6639 then (if x6639 < (l6552.length : Int) then (if (l6549.getD x6639.toNat 0) = (l6552.getD x6639.toNat 0) then (confidantref9_SameInts.l0 K l6549 l6552 n (IntKind.i64.wrap (x6639 + 1))) else (some false)) else none) else none) else (some true)
def confidantref9_SameInts.f (K : Nat) (l6549 : List Int) (l6552 : List Int) : Option Bool := if (l6549.length : Int) = (l6552.length : Int) then (confidantref9_SameInts.l0 K l6549 l6552 K 0) else (some false)
set_option maxRecDepth 100000 in
theorem confidantref9_SameInts.calls {K : Nat} {l6549 : List Int} {l6552 : List Int} {A6550 : Option Addr} {C6551 : Nat} {A6553 : Option Addr} {C6554 : Nat} {x6618 : Bool} {B w : World} {os : List Ass} {rs : List Ro} (H : confidantref9_SameInts.f K l6549 l6552 = some x6618) (hS : St B w (os) (Ro.sl (Kd.int .i32) A6550 C6551 l6549 :: Ro.sl (Kd.int .i32) A6553 C6554 l6552 :: rs)) :
    Calls Try.prog 50 [.slice A6550 l6549.length C6551, .slice A6553 l6552.length C6554].toArray w (fun en w' => ∃ v, en = .returned v ∧ v = .bool (x6618) ∧ St B w' (os) (Ro.sl (Kd.int .i32) A6550 C6551 l6549 :: Ro.sl (Kd.int .i32) A6553 C6554 l6552 :: rs)) := by
  unfold confidantref9_SameInts.f at H
  refine calls_of_EW (args := [.slice A6550 l6549.length C6551, .slice A6553 l6552.length C6554]) (c := Cd50) 26 Try.func50 (by kernel_rfl) (by kernel_rfl) (by kernel_rfl) ?_
  refine EW.seq (x := Cd50.l) (y := Cd50.r) (by kernel_rfl) ?_
  refine EW.region (id := 0) (ops := Cd50.l.ops) (by kernel_rfl) ?_
  refine EL.quick 1 [0, 1] [(0, .slice A6550 l6549.length C6551), (1, .slice A6553 l6552.length C6554)] (by kernel_rfl) ?_
  refine EL.done (by kernel_rfl) ?_
  refine EQ.code ?_
  refine EW.seq (x := Cd50.r.l) (y := Cd50.r.r) (by kernel_rfl) ?_
  refine EW.seq (x := Cd50.r.l.l) (y := Cd50.r.l.r) (by kernel_rfl) ?_
  refine EW.region (id := 1) (ops := Cd50.r.l.l.ops) (by kernel_rfl) ?_
  refine EL.quick 5 [0, 1, 10] [(0, .slice A6550 l6549.length C6551), (1, .slice A6553 l6552.length C6554), (10, .bool (!(decide ((l6549.length : Int) = (l6552.length : Int)))))] (by kernel_rfl) ?_
  refine EL.done (by kernel_rfl) ?_
  refine EQ.code ?_
  refine EW.condQ (b := !(decide ((l6549.length : Int) = (l6552.length : Int)))) (o := (.tmp 10)) (x := Cd50.r.l.r.l) (y := Cd50.r.l.r.r) ((l6549.length : Int) = (l6552.length : Int)) (false) (by kernel_rfl) (by kernel_rfl) ⟨fun h => (by rw [decide_eq_true h] <;> rfl), fun h => (by rw [decide_eq_false h] <;> rfl)⟩ (fun h6620 => ?_) (fun h6620 => ?_)
  · rw [if_pos h6620] at H
    refine EW.skip (by kernel_rfl) ?_
    refine EQ.code ?_
    refine EW.seq (x := Cd50.r.r.l) (y := Cd50.r.r.r) (by kernel_rfl) ?_
    refine EW.seq (x := Cd50.r.r.l.l) (y := Cd50.r.r.l.r) (by kernel_rfl) ?_
    refine EW.region (id := 3) (ops := Cd50.r.r.l.l.ops) (by kernel_rfl) ?_
    refine EL.quick 1 [0, 1, 5] [(0, .slice A6550 l6549.length C6551), (1, .slice A6553 l6552.length C6554), (5, .int .i64 0)] (by kernel_rfl) ?_
    refine EL.done (by kernel_rfl) ?_
    refine EQ.code ?_
    refine EW.block (x := Cd50.r.r.l.r.l) (id := 0) (by kernel_rfl) ?_
    refine EW.loop (x := Cd50.r.r.l.r.l.l) (fun n a w => ∃ x6639 : Int, Sat 26 [(0, .slice A6550 l6549.length C6551), (1, .slice A6553 l6552.length C6554), (5, .int .i64 x6639)] a ∧ St B w (os) (Ro.sl (Kd.int .i32) A6550 C6551 l6549 :: Ro.sl (Kd.int .i32) A6553 C6554 l6552 :: rs) ∧ confidantref9_SameInts.l0 K l6549 l6552 n x6639 = some x6618) K (by kernel_rfl) ?_ (fun n a w hI => ?_)
    · refine EQ.keep [0, 1, 5] [(0, .slice A6550 l6549.length C6551), (1, .slice A6553 l6552.length C6554), (5, .int .i64 0)] (by kernel_rfl) ?_
      exact fun a ha => ⟨0, ha, (hS.re [] [] rfl (sub_cons 0 rfl (sub_cons 1 rfl (sub_tail (sub_tail (sub_self)))))), H⟩
    · obtain ⟨x6639, ha, hS, H⟩ := hI
      obtain _ | n := n
      · simp [confidantref9_SameInts.l0] at H
      rw [confidantref9_SameInts.l0.eq_2] at H
      refine EW.at ?_ a ha
      clear ha a
      refine EW.seq (x := Cd50.r.r.l.r.l.l.l) (y := Cd50.r.r.l.r.l.l.r) (by kernel_rfl) ?_
      refine EW.seq (x := Cd50.r.r.l.r.l.l.l.l) (y := Cd50.r.r.l.r.l.l.l.r) (by kernel_rfl) ?_
      refine EW.region (id := 4) (ops := Cd50.r.r.l.r.l.l.l.l.ops) (by kernel_rfl) ?_
      refine EL.quick 4 [0, 1, 5, 14] [(0, .slice A6550 l6549.length C6551), (1, .slice A6553 l6552.length C6554), (5, .int .i64 x6639), (14, .bool (decide (x6639 < (l6549.length : Int))))] (by kernel_rfl) ?_
      refine EL.done (by kernel_rfl) ?_
      refine EQ.code ?_
      refine EW.condP (o := (.tmp 14)) (x := Cd50.r.r.l.r.l.l.l.r.l) (y := Cd50.r.r.l.r.l.l.l.r.r) (x6639 < (l6549.length : Int)) (by kernel_rfl) (by kernel_rfl) (fun h6663 => ?_) (fun h6663 => ?_)
      · rw [if_pos h6663] at H
        refine EW.skip (by kernel_rfl) ?_
        refine EQ.code ?_
        refine EW.seq (x := Cd50.r.r.l.r.l.l.r.l) (y := Cd50.r.r.l.r.l.l.r.r) (by kernel_rfl) ?_
        refine EW.block (x := Cd50.r.r.l.r.l.l.r.l.l) (id := 1) (by kernel_rfl) ?_
        refine EW.seq (x := Cd50.r.r.l.r.l.l.r.l.l.l) (y := Cd50.r.r.l.r.l.l.r.l.l.r) (by kernel_rfl) ?_
        obtain ⟨h6677, H⟩ := ite_in H
        obtain ⟨ad6678, rfl⟩ := St.rd_some hS (Rd.ro 0 rfl) h6677 h6663
        obtain ⟨h6679, H⟩ := ite_in H
        obtain ⟨ad6680, rfl⟩ := St.rd_some hS (Rd.ro 1 rfl) h6677 h6679
        have hS := hS.drew
        refine EW.draw (B := B) (id := 6) (ops := Cd50.r.r.l.r.l.l.r.l.l.l.ops) [] [Ro.sl (Kd.int .i32) (some ad6678) C6551 l6549, Ro.sl (Kd.int .i32) (some ad6680) C6554 l6552] (by kernel_rfl) (by kernel_rfl) ?_
        have hN : Region.noSelect Cd50.r.r.l.r.l.l.r.l.l.l.ops = true := (by kernel_rfl)
        have hF : freeAll Cd50.r.r.l.r.l.l.r.l.l.l.ops = true := (by kernel_rfl)
        have hC : Core B [] [Ro.sl (Kd.int .i32) (some ad6678) C6551 l6549, Ro.sl (Kd.int .i32) (some ad6680) C6554 l6552] _ := ⟨_, _, hS⟩
        refine ED.quick hN hF hC [0, 1, 4, 5] [0, 1, 5, 17, 18, 21, 22] 5 [(0, .slice (some ad6678) l6549.length C6551), (1, .slice (some ad6680) l6552.length C6554), (5, .int .i64 x6639), (17, .slice (some ad6678) l6549.length C6551), (18, .int .i64 x6639), (21, .slice (some ad6680) l6552.length C6554), (22, .int .i64 x6639)] #[true, true, false, false, true, true, false, false, false] (by kernel_rfl) (by kernel_rfl) ?_
        refine ED.Y hN hF hC 2 4 #[true, true, true, false, true, true, false, false, false] (by kernel_rfl) (by kernel_rfl) rfl (fun _ _ _ hS => YO.idx 32 1 ad6678 l6549.length C6551 .i64 x6639 19 (by kernel_rfl) (by kernel_rfl) (by kernel_rfl) (by kernel_rfl) h6677 h6663) ?_
        refine ED.Y hN hF hC 3 3 #[true, true, true, true, true, true, false, false, false] (by kernel_rfl) (by kernel_rfl) rfl (fun _ _ _ hS => YO.loadEl hS (Kd.int .i32) ad6678 C6551 l6549 (Rd.ro 0 rfl) 0 (encI .i32) encI_of x6639 h6677 h6663 21 1 0 1 rfl (.int .i32 (l6549.getD x6639.toNat 0)) 20 (by kernel_rfl) (by kernel_rfl) (by kernel_rfl) (by kernel_rfl)) ?_
        refine ED.Y hN hF hC 6 2 #[true, true, true, true, true, true, true, false, false] (by kernel_rfl) (by kernel_rfl) rfl (fun _ _ _ hS => YO.idx 32 1 ad6680 l6552.length C6554 .i64 x6639 23 (by kernel_rfl) (by kernel_rfl) (by kernel_rfl) (by kernel_rfl) h6677 h6679) ?_
        refine ED.Y hN hF hC 7 1 #[true, true, true, true, true, true, true, true, false] (by kernel_rfl) (by kernel_rfl) rfl (fun _ _ _ hS => YO.loadEl hS (Kd.int .i32) ad6680 C6554 l6552 (Rd.ro 1 rfl) 0 (encI .i32) encI_of x6639 h6677 h6679 21 1 0 1 rfl (.int .i32 (l6552.getD x6639.toNat 0)) 24 (by kernel_rfl) (by kernel_rfl) (by kernel_rfl) (by kernel_rfl)) ?_
        refine ED.quick hN hF hC [8] [0, 1, 5, 25] 0 [(0, .slice (some ad6678) l6549.length C6551), (1, .slice (some ad6680) l6552.length C6554), (5, .int .i64 x6639), (25, .bool (!(decide ((l6549.getD x6639.toNat 0) = (l6552.getD x6639.toNat 0)))))] #[true, true, true, true, true, true, true, true, true] (by kernel_rfl) (by kernel_rfl) ?_
        refine ED.done (by kernel_rfl) ?_
        refine EQ.code ?_
        refine EW.condQ (b := !(decide ((l6549.getD x6639.toNat 0) = (l6552.getD x6639.toNat 0)))) (o := (.tmp 25)) (x := Cd50.r.r.l.r.l.l.r.l.l.r.l) (y := Cd50.r.r.l.r.l.l.r.l.l.r.r) ((l6549.getD x6639.toNat 0) = (l6552.getD x6639.toNat 0)) (false) (by kernel_rfl) (by kernel_rfl) ⟨fun h => (by rw [decide_eq_true h] <;> rfl), fun h => (by rw [decide_eq_false h] <;> rfl)⟩ (fun h6681 => ?_) (fun h6681 => ?_)
        · rw [if_pos h6681] at H
          refine EW.skip (by kernel_rfl) ?_
          refine EQ.pop ?_
          refine EQ.code ?_
          refine EW.region (id := 5) (ops := Cd50.r.r.l.r.l.l.r.r.ops) (by kernel_rfl) ?_
          refine EL.quick 3 [0, 1, 5] [(0, .slice (some ad6678) l6549.length C6551), (1, .slice (some ad6680) l6552.length C6554), (5, .int .i64 (IntKind.i64.wrap (x6639 + 1)))] (by kernel_rfl) ?_
          refine EL.done (by kernel_rfl) ?_
          refine EQ.to ?_
          refine EQ.keep [0, 1, 5] [(0, .slice (some ad6678) l6549.length C6551), (1, .slice (some ad6680) l6552.length C6554), (5, .int .i64 (IntKind.i64.wrap (x6639 + 1)))] (by kernel_rfl) ?_
          exact fun a ha => ⟨n, Nat.lt_succ_self n, IntKind.i64.wrap (x6639 + 1), ha, (hS.re [] [] rfl (sub_cons 0 rfl (sub_cons 1 rfl (sub_tail (sub_tail (sub_self)))))), H⟩
        · rw [if_neg h6681] at H
          refine EW.seq (x := Cd50.r.r.l.r.l.l.r.l.l.r.l.l) (y := Cd50.r.r.l.r.l.l.r.l.l.r.l.r) (by kernel_rfl) ?_
          refine EW.region (id := 7) (ops := Cd50.r.r.l.r.l.l.r.l.l.r.l.l.ops) (by kernel_rfl) ?_
          refine EL.quick 1 [4] [(4, .bool (false))] (by kernel_rfl) ?_
          refine EL.done (by kernel_rfl) ?_
          refine EQ.code ?_
          refine EW.ret (by kernel_rfl) ?_
          refine EQ.ret ?_
          refine EQ.ret ?_
          refine EQ.ret ?_
          refine EQ.ret ?_
          refine EQ.ret ?_
          obtain rfl := Option.some.inj H
          exact EQ.leave (.bool (false)) (by kernel_rfl) ⟨_, rfl, rfl, (hS.re [] [] rfl (sub_self))⟩
      · rw [if_neg h6663] at H
        refine EW.exit (id := 0) (by kernel_rfl) ?_
        refine EQ.exitCode ?_
        refine EQ.exitTo ?_
        refine EQ.exitHere ?_
        refine EQ.code ?_
        refine EW.seq (x := Cd50.r.r.r.l) (y := Cd50.r.r.r.r) (by kernel_rfl) ?_
        refine EW.region (id := 8) (ops := Cd50.r.r.r.l.ops) (by kernel_rfl) ?_
        refine EL.quick 1 [4] [(4, .bool (true))] (by kernel_rfl) ?_
        refine EL.done (by kernel_rfl) ?_
        refine EQ.code ?_
        refine EW.ret (by kernel_rfl) ?_
        obtain rfl := Option.some.inj H
        exact EQ.leave (.bool (true)) (by kernel_rfl) ⟨_, rfl, rfl, (hS.re [] [] rfl (sub_self))⟩
  · rw [if_neg h6620] at H
    refine EW.seq (x := Cd50.r.l.r.l.l) (y := Cd50.r.l.r.l.r) (by kernel_rfl) ?_
    refine EW.region (id := 2) (ops := Cd50.r.l.r.l.l.ops) (by kernel_rfl) ?_
    refine EL.quick 1 [4] [(4, .bool (false))] (by kernel_rfl) ?_
    refine EL.done (by kernel_rfl) ?_
    refine EQ.code ?_
    refine EW.ret (by kernel_rfl) ?_
    refine EQ.ret ?_
    obtain rfl := Option.some.inj H
    exact EQ.leave (.bool (false)) (by kernel_rfl) ⟨_, rfl, rfl, (hS.re [] [] rfl (sub_self))⟩

/-! ### confidant/confidantref9.Same: function 26 -/
def confidantref9_Same.f (K : Nat) (a6514 : Int) (a6515 : Int) (a6516 : Int) (l6517 : List Int) (a6520 : Int) (a6521 : Int) (a6522 : Int) (a6523 : Int) (a6524 : Int) (a6525 : Int) (a6526 : Int) (a6527 : Int) (a6528 : Int) (a6529 : Int) (a6530 : Int) (l6531 : List Int) (a6534 : Int) (a6535 : Int) (a6536 : Int) (a6537 : Int) (a6538 : Int) (a6539 : Int) (a6540 : Int) (a6541 : Int) : Option Bool := if a6514 = a6528 then (if a6515 = a6529 then (if a6516 = a6530 then (b1 (confidantref9_SameInts.f K l6517 l6531) fun (t6697 : Bool) => (if t6697 = true then (if ((a6520 == a6534) && ((a6521 == a6535) && ((a6522 == a6536) && ((a6523 == a6537) && true)))) = true then (if a6524 = a6538 then (if a6525 = a6539 then (if a6526 = a6540 then (some (decide (a6527 = a6541))) else (some false)) else (some false)) else (some false)) else (some false)) else (some false))) else (some false)) else (some false)) else (some false)
set_option maxRecDepth 100000 in
theorem confidantref9_Same.calls {K : Nat} {a6514 : Int} {a6515 : Int} {a6516 : Int} {l6517 : List Int} {a6520 : Int} {a6521 : Int} {a6522 : Int} {a6523 : Int} {a6524 : Int} {a6525 : Int} {a6526 : Int} {a6527 : Int} {a6528 : Int} {a6529 : Int} {a6530 : Int} {l6531 : List Int} {a6534 : Int} {a6535 : Int} {a6536 : Int} {a6537 : Int} {a6538 : Int} {a6539 : Int} {a6540 : Int} {a6541 : Int} {A6518 : Option Addr} {C6519 : Nat} {A6532 : Option Addr} {C6533 : Nat} {x6689 : Bool} {B w : World} {os : List Ass} {rs : List Ro} (H : confidantref9_Same.f K a6514 a6515 a6516 l6517 a6520 a6521 a6522 a6523 a6524 a6525 a6526 a6527 a6528 a6529 a6530 l6531 a6534 a6535 a6536 a6537 a6538 a6539 a6540 a6541 = some x6689) (hS : St B w (os) (Ro.sl (Kd.int .i32) A6518 C6519 l6517 :: Ro.sl (Kd.int .i32) A6532 C6533 l6531 :: rs)) :
    Calls Try.prog 26 [.agg #[.int .i32 a6514, .int .i64 a6515, .int .i64 a6516, .slice A6518 l6517.length C6519, .int .i32 a6520, .int .i32 a6521, .int .i32 a6522, .int .i32 a6523, .int .i64 a6524, .int .i64 a6525, .int .u32 a6526, .int .i64 a6527], .agg #[.int .i32 a6528, .int .i64 a6529, .int .i64 a6530, .slice A6532 l6531.length C6533, .int .i32 a6534, .int .i32 a6535, .int .i32 a6536, .int .i32 a6537, .int .i64 a6538, .int .i64 a6539, .int .u32 a6540, .int .i64 a6541]].toArray w (fun en w' => ∃ v, en = .returned v ∧ v = .bool (x6689) ∧ St B w' (os) (Ro.sl (Kd.int .i32) A6518 C6519 l6517 :: Ro.sl (Kd.int .i32) A6532 C6533 l6531 :: rs)) := by
  unfold confidantref9_Same.f at H
  refine calls_of_EW (args := [.agg #[.int .i32 a6514, .int .i64 a6515, .int .i64 a6516, .slice A6518 l6517.length C6519, .int .i32 a6520, .int .i32 a6521, .int .i32 a6522, .int .i32 a6523, .int .i64 a6524, .int .i64 a6525, .int .u32 a6526, .int .i64 a6527], .agg #[.int .i32 a6528, .int .i64 a6529, .int .i64 a6530, .slice A6532 l6531.length C6533, .int .i32 a6534, .int .i32 a6535, .int .i32 a6536, .int .i32 a6537, .int .i64 a6538, .int .i64 a6539, .int .u32 a6540, .int .i64 a6541]]) (c := Cd26) 66 Try.func26 (by kernel_rfl) (by kernel_rfl) (by kernel_rfl) ?_
  refine EW.seq (x := Cd26.l) (y := Cd26.r) (by kernel_rfl) ?_
  refine EW.region (id := 0) (ops := Cd26.l.ops) (by kernel_rfl) ?_
  refine EL.of (EO.box hS 36 (.agg #[.int .i32 a6514, .int .i64 a6515, .int .i64 a6516, .slice A6518 l6517.length C6519, .int .i32 a6520, .int .i32 a6521, .int .i32 a6522, .int .i32 a6523, .int .i64 a6524, .int .i64 a6525, .int .u32 a6526, .int .i64 a6527]) [.int .i32 a6514, .int .i64 a6515, .int .i64 a6516, .slice A6518 l6517.length C6519, .int .i32 a6520, .int .i32 a6521, .int .i32 a6522, .int .i32 a6523, .int .i64 a6524, .int .i64 a6525, .int .u32 a6526, .int .i64 a6527] 2 (by kernel_rfl) (by kernel_rfl) (by kernel_rfl) (by first | rfl | kernel_rfl) ?_)
  intro g6692 w hS
  refine EL.of (EO.box hS 36 (.agg #[.int .i32 a6528, .int .i64 a6529, .int .i64 a6530, .slice A6532 l6531.length C6533, .int .i32 a6534, .int .i32 a6535, .int .i32 a6536, .int .i32 a6537, .int .i64 a6538, .int .i64 a6539, .int .u32 a6540, .int .i64 a6541]) [.int .i32 a6528, .int .i64 a6529, .int .i64 a6530, .slice A6532 l6531.length C6533, .int .i32 a6534, .int .i32 a6535, .int .i32 a6536, .int .i32 a6537, .int .i64 a6538, .int .i64 a6539, .int .u32 a6540, .int .i64 a6541] 3 (by kernel_rfl) (by kernel_rfl) (by kernel_rfl) (by first | rfl | kernel_rfl) ?_)
  intro g6693 w hS
  refine EL.quick 1 [2, 3] [(2, .pointer (some ⟨g6692, 0, none⟩)), (3, .pointer (some ⟨g6693, 0, none⟩))] (by kernel_rfl) ?_
  refine EL.done (by kernel_rfl) ?_
  refine EQ.code ?_
  refine EW.seq (x := Cd26.r.l) (y := Cd26.r.r) (by kernel_rfl) ?_
  refine EW.region (id := 1) (ops := Cd26.r.l.ops) (by kernel_rfl) ?_
  refine EL.quick 1 [2, 3, 5] [(2, .pointer (some ⟨g6692, 0, none⟩)), (3, .pointer (some ⟨g6693, 0, none⟩)), (5, .pointer (some ⟨g6692, 0, none⟩))] (by kernel_rfl) ?_
  refine EL.of (EO.Y (YO.loadBox hS 1 rfl 21 0 1 (.int .i32 a6514) 6 (by kernel_rfl) (by kernel_rfl) (by kernel_rfl) (by kernel_rfl)) ?_)
  refine EL.quick 1 [2, 3, 6, 7] [(2, .pointer (some ⟨g6692, 0, none⟩)), (3, .pointer (some ⟨g6693, 0, none⟩)), (6, .int .i32 a6514), (7, .pointer (some ⟨g6693, 0, none⟩))] (by kernel_rfl) ?_
  refine EL.of (EO.Y (YO.loadBox hS 0 rfl 21 0 1 (.int .i32 a6528) 8 (by kernel_rfl) (by kernel_rfl) (by kernel_rfl) (by kernel_rfl)) ?_)
  refine EL.quick 2 [2, 3, 10] [(2, .pointer (some ⟨g6692, 0, none⟩)), (3, .pointer (some ⟨g6693, 0, none⟩)), (10, .bool (decide (a6514 = a6528)))] (by kernel_rfl) ?_
  by_cases h6694 : a6514 = a6528
  · rw [if_pos h6694] at H
    refine EL.keep [2, 3, 10] [(2, .pointer (some ⟨g6692, 0, none⟩)), (3, .pointer (some ⟨g6693, 0, none⟩)), (10, .bool (decide (a6514 = a6528)))] (by kernel_rfl) ?_
    refine EL.as' [(2, .pointer (some ⟨g6692, 0, none⟩)), (3, .pointer (some ⟨g6693, 0, none⟩)), (10, .bool (true))] (by simp only [dec_t h6694, Bool.not_true, Bool.not_false]) ?_
    refine EL.quick 1 [2, 3, 10, 11] [(2, .pointer (some ⟨g6692, 0, none⟩)), (3, .pointer (some ⟨g6693, 0, none⟩)), (10, .bool (true)), (11, .pointer (some ⟨g6692, 1, none⟩))] (by kernel_rfl) ?_
    refine EL.of (EO.Y (YO.loadBox hS 1 rfl 3 1 1 (.int .i64 a6515) 12 (by kernel_rfl) (by kernel_rfl) (by kernel_rfl) (by kernel_rfl)) ?_)
    refine EL.quick 1 [2, 3, 10, 12, 13] [(2, .pointer (some ⟨g6692, 0, none⟩)), (3, .pointer (some ⟨g6693, 0, none⟩)), (10, .bool (true)), (12, .int .i64 a6515), (13, .pointer (some ⟨g6693, 1, none⟩))] (by kernel_rfl) ?_
    refine EL.of (EO.Y (YO.loadBox hS 0 rfl 3 1 1 (.int .i64 a6529) 14 (by kernel_rfl) (by kernel_rfl) (by kernel_rfl) (by kernel_rfl)) ?_)
    refine EL.quick 3 [2, 3, 17] [(2, .pointer (some ⟨g6692, 0, none⟩)), (3, .pointer (some ⟨g6693, 0, none⟩)), (17, .bool (decide (a6515 = a6529)))] (by kernel_rfl) ?_
    by_cases h6695 : a6515 = a6529
    · rw [if_pos h6695] at H
      refine EL.keep [2, 3, 17] [(2, .pointer (some ⟨g6692, 0, none⟩)), (3, .pointer (some ⟨g6693, 0, none⟩)), (17, .bool (decide (a6515 = a6529)))] (by kernel_rfl) ?_
      refine EL.as' [(2, .pointer (some ⟨g6692, 0, none⟩)), (3, .pointer (some ⟨g6693, 0, none⟩)), (17, .bool (true))] (by simp only [dec_t h6695, Bool.not_true, Bool.not_false]) ?_
      refine EL.quick 1 [2, 3, 17, 18] [(2, .pointer (some ⟨g6692, 0, none⟩)), (3, .pointer (some ⟨g6693, 0, none⟩)), (17, .bool (true)), (18, .pointer (some ⟨g6692, 2, none⟩))] (by kernel_rfl) ?_
      refine EL.of (EO.Y (YO.loadBox hS 1 rfl 3 2 1 (.int .i64 a6516) 19 (by kernel_rfl) (by kernel_rfl) (by kernel_rfl) (by kernel_rfl)) ?_)
      refine EL.quick 1 [2, 3, 17, 19, 20] [(2, .pointer (some ⟨g6692, 0, none⟩)), (3, .pointer (some ⟨g6693, 0, none⟩)), (17, .bool (true)), (19, .int .i64 a6516), (20, .pointer (some ⟨g6693, 2, none⟩))] (by kernel_rfl) ?_
      refine EL.of (EO.Y (YO.loadBox hS 0 rfl 3 2 1 (.int .i64 a6530) 21 (by kernel_rfl) (by kernel_rfl) (by kernel_rfl) (by kernel_rfl)) ?_)
      refine EL.quick 3 [2, 3, 24] [(2, .pointer (some ⟨g6692, 0, none⟩)), (3, .pointer (some ⟨g6693, 0, none⟩)), (24, .bool (decide (a6516 = a6530)))] (by kernel_rfl) ?_
      by_cases h6696 : a6516 = a6530
      · rw [if_pos h6696] at H
        refine EL.keep [2, 3, 24] [(2, .pointer (some ⟨g6692, 0, none⟩)), (3, .pointer (some ⟨g6693, 0, none⟩)), (24, .bool (decide (a6516 = a6530)))] (by kernel_rfl) ?_
        refine EL.as' [(2, .pointer (some ⟨g6692, 0, none⟩)), (3, .pointer (some ⟨g6693, 0, none⟩)), (24, .bool (true))] (by simp only [dec_t h6696, Bool.not_true, Bool.not_false]) ?_
        refine EL.quick 1 [2, 3, 24, 25] [(2, .pointer (some ⟨g6692, 0, none⟩)), (3, .pointer (some ⟨g6693, 0, none⟩)), (24, .bool (true)), (25, .pointer (some ⟨g6692, 3, none⟩))] (by kernel_rfl) ?_
        refine EL.of (EO.Y (YO.loadBox hS 1 rfl 32 3 1 (.slice A6518 l6517.length C6519) 26 (by kernel_rfl) (by kernel_rfl) (by kernel_rfl) (by kernel_rfl)) ?_)
        refine EL.quick 1 [2, 3, 24, 26, 27] [(2, .pointer (some ⟨g6692, 0, none⟩)), (3, .pointer (some ⟨g6693, 0, none⟩)), (24, .bool (true)), (26, .slice A6518 l6517.length C6519), (27, .pointer (some ⟨g6693, 3, none⟩))] (by kernel_rfl) ?_
        refine EL.of (EO.Y (YO.loadBox hS 0 rfl 32 3 1 (.slice A6532 l6531.length C6533) 28 (by kernel_rfl) (by kernel_rfl) (by kernel_rfl) (by kernel_rfl)) ?_)
        have hS : St B _ (Ass.box 36 g6693 [.int .i32 a6528, .int .i64 a6529, .int .i64 a6530, .slice A6532 l6531.length C6533, .int .i32 a6534, .int .i32 a6535, .int .i32 a6536, .int .i32 a6537, .int .i64 a6538, .int .i64 a6539, .int .u32 a6540, .int .i64 a6541] :: Ass.box 36 g6692 [.int .i32 a6514, .int .i64 a6515, .int .i64 a6516, .slice A6518 l6517.length C6519, .int .i32 a6520, .int .i32 a6521, .int .i32 a6522, .int .i32 a6523, .int .i64 a6524, .int .i64 a6525, .int .u32 a6526, .int .i64 a6527] :: os) (Ro.sl (Kd.int .i32) A6518 C6519 l6517 :: Ro.sl (Kd.int .i32) A6532 C6533 l6531 :: Ro.sl (Kd.int .i32) A6518 C6519 l6517 :: Ro.sl (Kd.int .i32) A6532 C6533 l6531 :: rs) := hS.re [] [] rfl (sub_cons 0 rfl (sub_cons 1 rfl sub_self))
        obtain ⟨t6697, hc6698, H⟩ := b1_out H
        refine EL.of (EO.callD 50 [.slice A6518 l6517.length C6519, .slice A6532 l6531.length C6533] _ 29 (by kernel_rfl) (by kernel_rfl) (by kernel_rfl) (confidantref9_SameInts.calls hc6698 hS) ?_)
        rintro v w ⟨rfl, hS⟩
        refine EL.quick 2 [2, 3, 31] [(2, .pointer (some ⟨g6692, 0, none⟩)), (3, .pointer (some ⟨g6693, 0, none⟩)), (31, .bool (t6697))] (by kernel_rfl) ?_
        by_cases h6699 : t6697 = true
        · rw [if_pos h6699] at H
          refine EL.keep [2, 3, 31] [(2, .pointer (some ⟨g6692, 0, none⟩)), (3, .pointer (some ⟨g6693, 0, none⟩)), (31, .bool (t6697))] (by kernel_rfl) ?_
          refine EL.as' [(2, .pointer (some ⟨g6692, 0, none⟩)), (3, .pointer (some ⟨g6693, 0, none⟩)), (31, .bool (true))] (by simp only [h6699, Bool.not_true, Bool.not_false]) ?_
          refine EL.quick 1 [2, 3, 31, 32] [(2, .pointer (some ⟨g6692, 0, none⟩)), (3, .pointer (some ⟨g6693, 0, none⟩)), (31, .bool (true)), (32, .pointer (some ⟨g6692, 4, none⟩))] (by kernel_rfl) ?_
          refine EL.of (EO.Y (YO.loadBox hS 1 rfl 33 4 4 (.agg #[.int .i32 a6520, .int .i32 a6521, .int .i32 a6522, .int .i32 a6523]) 33 (by kernel_rfl) (by kernel_rfl) (by kernel_rfl) (by kernel_rfl)) ?_)
          refine EL.quick 1 [2, 3, 31, 33, 34] [(2, .pointer (some ⟨g6692, 0, none⟩)), (3, .pointer (some ⟨g6693, 0, none⟩)), (31, .bool (true)), (33, .agg #[.int .i32 a6520, .int .i32 a6521, .int .i32 a6522, .int .i32 a6523]), (34, .pointer (some ⟨g6693, 4, none⟩))] (by kernel_rfl) ?_
          refine EL.of (EO.Y (YO.loadBox hS 0 rfl 33 4 4 (.agg #[.int .i32 a6534, .int .i32 a6535, .int .i32 a6536, .int .i32 a6537]) 35 (by kernel_rfl) (by kernel_rfl) (by kernel_rfl) (by kernel_rfl)) ?_)
          refine EL.of (EO.Y (YO.eqAg .eql 33 (.tmp 33) (.tmp 35) #[.int .i32 a6520, .int .i32 a6521, .int .i32 a6522, .int .i32 a6523] #[.int .i32 a6534, .int .i32 a6535, .int .i32 a6536, .int .i32 a6537] ((a6520 == a6534) && ((a6521 == a6535) && ((a6522 == a6536) && ((a6523 == a6537) && true)))) (((a6520 == a6534) && ((a6521 == a6535) && ((a6522 == a6536) && ((a6523 == a6537) && true))))) 36 (by kernel_rfl) (by kernel_rfl) (by kernel_rfl) (by kernel_rfl) (by kernel_rfl) (.inl ⟨rfl, rfl⟩)) ?_)
          refine EL.quick 2 [2, 3, 38] [(2, .pointer (some ⟨g6692, 0, none⟩)), (3, .pointer (some ⟨g6693, 0, none⟩)), (38, .bool (((a6520 == a6534) && ((a6521 == a6535) && ((a6522 == a6536) && ((a6523 == a6537) && true))))))] (by kernel_rfl) ?_
          by_cases h6700 : ((a6520 == a6534) && ((a6521 == a6535) && ((a6522 == a6536) && ((a6523 == a6537) && true)))) = true
          · rw [if_pos h6700] at H
            refine EL.keep [2, 3, 38] [(2, .pointer (some ⟨g6692, 0, none⟩)), (3, .pointer (some ⟨g6693, 0, none⟩)), (38, .bool (((a6520 == a6534) && ((a6521 == a6535) && ((a6522 == a6536) && ((a6523 == a6537) && true))))))] (by kernel_rfl) ?_
            refine EL.as' [(2, .pointer (some ⟨g6692, 0, none⟩)), (3, .pointer (some ⟨g6693, 0, none⟩)), (38, .bool (true))] (by simp only [h6700, Bool.not_true, Bool.not_false]) ?_
            refine EL.quick 1 [2, 3, 38, 39] [(2, .pointer (some ⟨g6692, 0, none⟩)), (3, .pointer (some ⟨g6693, 0, none⟩)), (38, .bool (true)), (39, .pointer (some ⟨g6692, 8, none⟩))] (by kernel_rfl) ?_
            refine EL.of (EO.Y (YO.loadBox hS 1 rfl 3 8 1 (.int .i64 a6524) 40 (by kernel_rfl) (by kernel_rfl) (by kernel_rfl) (by kernel_rfl)) ?_)
            refine EL.quick 1 [2, 3, 38, 40, 41] [(2, .pointer (some ⟨g6692, 0, none⟩)), (3, .pointer (some ⟨g6693, 0, none⟩)), (38, .bool (true)), (40, .int .i64 a6524), (41, .pointer (some ⟨g6693, 8, none⟩))] (by kernel_rfl) ?_
            refine EL.of (EO.Y (YO.loadBox hS 0 rfl 3 8 1 (.int .i64 a6538) 42 (by kernel_rfl) (by kernel_rfl) (by kernel_rfl) (by kernel_rfl)) ?_)
            refine EL.quick 3 [2, 3, 45] [(2, .pointer (some ⟨g6692, 0, none⟩)), (3, .pointer (some ⟨g6693, 0, none⟩)), (45, .bool (decide (a6524 = a6538)))] (by kernel_rfl) ?_
            by_cases h6701 : a6524 = a6538
            · rw [if_pos h6701] at H
              refine EL.keep [2, 3, 45] [(2, .pointer (some ⟨g6692, 0, none⟩)), (3, .pointer (some ⟨g6693, 0, none⟩)), (45, .bool (decide (a6524 = a6538)))] (by kernel_rfl) ?_
              refine EL.as' [(2, .pointer (some ⟨g6692, 0, none⟩)), (3, .pointer (some ⟨g6693, 0, none⟩)), (45, .bool (true))] (by simp only [dec_t h6701, Bool.not_true, Bool.not_false]) ?_
              refine EL.quick 1 [2, 3, 45, 46] [(2, .pointer (some ⟨g6692, 0, none⟩)), (3, .pointer (some ⟨g6693, 0, none⟩)), (45, .bool (true)), (46, .pointer (some ⟨g6692, 9, none⟩))] (by kernel_rfl) ?_
              refine EL.of (EO.Y (YO.loadBox hS 1 rfl 3 9 1 (.int .i64 a6525) 47 (by kernel_rfl) (by kernel_rfl) (by kernel_rfl) (by kernel_rfl)) ?_)
              refine EL.quick 1 [2, 3, 45, 47, 48] [(2, .pointer (some ⟨g6692, 0, none⟩)), (3, .pointer (some ⟨g6693, 0, none⟩)), (45, .bool (true)), (47, .int .i64 a6525), (48, .pointer (some ⟨g6693, 9, none⟩))] (by kernel_rfl) ?_
              refine EL.of (EO.Y (YO.loadBox hS 0 rfl 3 9 1 (.int .i64 a6539) 49 (by kernel_rfl) (by kernel_rfl) (by kernel_rfl) (by kernel_rfl)) ?_)
              refine EL.quick 3 [2, 3, 52] [(2, .pointer (some ⟨g6692, 0, none⟩)), (3, .pointer (some ⟨g6693, 0, none⟩)), (52, .bool (decide (a6525 = a6539)))] (by kernel_rfl) ?_
              by_cases h6702 : a6525 = a6539
              · rw [if_pos h6702] at H
                refine EL.keep [2, 3, 52] [(2, .pointer (some ⟨g6692, 0, none⟩)), (3, .pointer (some ⟨g6693, 0, none⟩)), (52, .bool (decide (a6525 = a6539)))] (by kernel_rfl) ?_
                refine EL.as' [(2, .pointer (some ⟨g6692, 0, none⟩)), (3, .pointer (some ⟨g6693, 0, none⟩)), (52, .bool (true))] (by simp only [dec_t h6702, Bool.not_true, Bool.not_false]) ?_
                refine EL.quick 1 [2, 3, 52, 53] [(2, .pointer (some ⟨g6692, 0, none⟩)), (3, .pointer (some ⟨g6693, 0, none⟩)), (52, .bool (true)), (53, .pointer (some ⟨g6692, 10, none⟩))] (by kernel_rfl) ?_
                refine EL.of (EO.Y (YO.loadBox hS 1 rfl 34 10 1 (.int .u32 a6526) 54 (by kernel_rfl) (by kernel_rfl) (by kernel_rfl) (by kernel_rfl)) ?_)
                refine EL.quick 1 [2, 3, 52, 54, 55] [(2, .pointer (some ⟨g6692, 0, none⟩)), (3, .pointer (some ⟨g6693, 0, none⟩)), (52, .bool (true)), (54, .int .u32 a6526), (55, .pointer (some ⟨g6693, 10, none⟩))] (by kernel_rfl) ?_
                refine EL.of (EO.Y (YO.loadBox hS 0 rfl 34 10 1 (.int .u32 a6540) 56 (by kernel_rfl) (by kernel_rfl) (by kernel_rfl) (by kernel_rfl)) ?_)
                refine EL.quick 3 [2, 3, 59] [(2, .pointer (some ⟨g6692, 0, none⟩)), (3, .pointer (some ⟨g6693, 0, none⟩)), (59, .bool (decide (a6526 = a6540)))] (by kernel_rfl) ?_
                by_cases h6703 : a6526 = a6540
                · rw [if_pos h6703] at H
                  refine EL.keep [2, 3, 59] [(2, .pointer (some ⟨g6692, 0, none⟩)), (3, .pointer (some ⟨g6693, 0, none⟩)), (59, .bool (decide (a6526 = a6540)))] (by kernel_rfl) ?_
                  refine EL.as' [(2, .pointer (some ⟨g6692, 0, none⟩)), (3, .pointer (some ⟨g6693, 0, none⟩)), (59, .bool (true))] (by simp only [dec_t h6703, Bool.not_true, Bool.not_false]) ?_
                  refine EL.quick 1 [3, 59, 60] [(3, .pointer (some ⟨g6693, 0, none⟩)), (59, .bool (true)), (60, .pointer (some ⟨g6692, 11, none⟩))] (by kernel_rfl) ?_
                  refine EL.of (EO.Y (YO.loadBox hS 1 rfl 3 11 1 (.int .i64 a6527) 61 (by kernel_rfl) (by kernel_rfl) (by kernel_rfl) (by kernel_rfl)) ?_)
                  refine EL.quick 1 [59, 61, 62] [(59, .bool (true)), (61, .int .i64 a6527), (62, .pointer (some ⟨g6693, 11, none⟩))] (by kernel_rfl) ?_
                  refine EL.of (EO.Y (YO.loadBox hS 0 rfl 3 11 1 (.int .i64 a6541) 63 (by kernel_rfl) (by kernel_rfl) (by kernel_rfl) (by kernel_rfl)) ?_)
                  refine EL.quick 3 [4] [(4, .bool (decide (a6527 = a6541)))] (by kernel_rfl) ?_
                  refine EL.done (by kernel_rfl) ?_
                  refine EQ.code ?_
                  refine EW.ret (by kernel_rfl) ?_
                  obtain rfl := Option.some.inj H
                  exact EQ.leave (.bool (decide (a6527 = a6541))) (by kernel_rfl) ⟨_, rfl, rfl, (hS.re [] [0, 0] rfl (sub_tail (sub_tail (sub_self))))⟩
                · rw [if_neg h6703] at H
                  refine EL.keep [2, 3, 59] [(2, .pointer (some ⟨g6692, 0, none⟩)), (3, .pointer (some ⟨g6693, 0, none⟩)), (59, .bool (decide (a6526 = a6540)))] (by kernel_rfl) ?_
                  refine EL.as' [(2, .pointer (some ⟨g6692, 0, none⟩)), (3, .pointer (some ⟨g6693, 0, none⟩)), (59, .bool (false))] (by simp only [dec_f h6703, Bool.not_true, Bool.not_false]) ?_
                  refine EL.quick 7 [4] [(4, .bool (false))] (by kernel_rfl) ?_
                  refine EL.done (by kernel_rfl) ?_
                  refine EQ.code ?_
                  refine EW.ret (by kernel_rfl) ?_
                  obtain rfl := Option.some.inj H
                  exact EQ.leave (.bool (false)) (by kernel_rfl) ⟨_, rfl, rfl, (hS.re [] [0, 0] rfl (sub_tail (sub_tail (sub_self))))⟩
              · rw [if_neg h6702] at H
                refine EL.keep [2, 3, 52] [(2, .pointer (some ⟨g6692, 0, none⟩)), (3, .pointer (some ⟨g6693, 0, none⟩)), (52, .bool (decide (a6525 = a6539)))] (by kernel_rfl) ?_
                refine EL.as' [(2, .pointer (some ⟨g6692, 0, none⟩)), (3, .pointer (some ⟨g6693, 0, none⟩)), (52, .bool (false))] (by simp only [dec_f h6702, Bool.not_true, Bool.not_false]) ?_
                refine EL.quick 14 [4] [(4, .bool (false))] (by kernel_rfl) ?_
                refine EL.done (by kernel_rfl) ?_
                refine EQ.code ?_
                refine EW.ret (by kernel_rfl) ?_
                obtain rfl := Option.some.inj H
                exact EQ.leave (.bool (false)) (by kernel_rfl) ⟨_, rfl, rfl, (hS.re [] [0, 0] rfl (sub_tail (sub_tail (sub_self))))⟩
            · rw [if_neg h6701] at H
              refine EL.keep [2, 3, 45] [(2, .pointer (some ⟨g6692, 0, none⟩)), (3, .pointer (some ⟨g6693, 0, none⟩)), (45, .bool (decide (a6524 = a6538)))] (by kernel_rfl) ?_
              refine EL.as' [(2, .pointer (some ⟨g6692, 0, none⟩)), (3, .pointer (some ⟨g6693, 0, none⟩)), (45, .bool (false))] (by simp only [dec_f h6701, Bool.not_true, Bool.not_false]) ?_
              refine EL.quick 21 [4] [(4, .bool (false))] (by kernel_rfl) ?_
              refine EL.done (by kernel_rfl) ?_
              refine EQ.code ?_
              refine EW.ret (by kernel_rfl) ?_
              obtain rfl := Option.some.inj H
              exact EQ.leave (.bool (false)) (by kernel_rfl) ⟨_, rfl, rfl, (hS.re [] [0, 0] rfl (sub_tail (sub_tail (sub_self))))⟩
          · rw [if_neg h6700] at H
            refine EL.keep [2, 3, 38] [(2, .pointer (some ⟨g6692, 0, none⟩)), (3, .pointer (some ⟨g6693, 0, none⟩)), (38, .bool (((a6520 == a6534) && ((a6521 == a6535) && ((a6522 == a6536) && ((a6523 == a6537) && true))))))] (by kernel_rfl) ?_
            refine EL.as' [(2, .pointer (some ⟨g6692, 0, none⟩)), (3, .pointer (some ⟨g6693, 0, none⟩)), (38, .bool (false))] (by simp only [(Bool.eq_false_iff.2 h6700), Bool.not_true, Bool.not_false]) ?_
            refine EL.quick 28 [4] [(4, .bool (false))] (by kernel_rfl) ?_
            refine EL.done (by kernel_rfl) ?_
            refine EQ.code ?_
            refine EW.ret (by kernel_rfl) ?_
            obtain rfl := Option.some.inj H
            exact EQ.leave (.bool (false)) (by kernel_rfl) ⟨_, rfl, rfl, (hS.re [] [0, 0] rfl (sub_tail (sub_tail (sub_self))))⟩
        · rw [if_neg h6699] at H
          refine EL.keep [2, 3, 31] [(2, .pointer (some ⟨g6692, 0, none⟩)), (3, .pointer (some ⟨g6693, 0, none⟩)), (31, .bool (t6697))] (by kernel_rfl) ?_
          refine EL.as' [(2, .pointer (some ⟨g6692, 0, none⟩)), (3, .pointer (some ⟨g6693, 0, none⟩)), (31, .bool (false))] (by simp only [(Bool.eq_false_iff.2 h6699), Bool.not_true, Bool.not_false]) ?_
          refine EL.quick 35 [4] [(4, .bool (false))] (by kernel_rfl) ?_
          refine EL.done (by kernel_rfl) ?_
          refine EQ.code ?_
          refine EW.ret (by kernel_rfl) ?_
          obtain rfl := Option.some.inj H
          exact EQ.leave (.bool (false)) (by kernel_rfl) ⟨_, rfl, rfl, (hS.re [] [0, 0] rfl (sub_tail (sub_tail (sub_self))))⟩
      · rw [if_neg h6696] at H
        refine EL.keep [2, 3, 24] [(2, .pointer (some ⟨g6692, 0, none⟩)), (3, .pointer (some ⟨g6693, 0, none⟩)), (24, .bool (decide (a6516 = a6530)))] (by kernel_rfl) ?_
        refine EL.as' [(2, .pointer (some ⟨g6692, 0, none⟩)), (3, .pointer (some ⟨g6693, 0, none⟩)), (24, .bool (false))] (by simp only [dec_f h6696, Bool.not_true, Bool.not_false]) ?_
        refine EL.quick 42 [4] [(4, .bool (false))] (by kernel_rfl) ?_
        refine EL.done (by kernel_rfl) ?_
        refine EQ.code ?_
        refine EW.ret (by kernel_rfl) ?_
        obtain rfl := Option.some.inj H
        exact EQ.leave (.bool (false)) (by kernel_rfl) ⟨_, rfl, rfl, (hS.re [] [0, 0] rfl (sub_self))⟩
    · rw [if_neg h6695] at H
      refine EL.keep [2, 3, 17] [(2, .pointer (some ⟨g6692, 0, none⟩)), (3, .pointer (some ⟨g6693, 0, none⟩)), (17, .bool (decide (a6515 = a6529)))] (by kernel_rfl) ?_
      refine EL.as' [(2, .pointer (some ⟨g6692, 0, none⟩)), (3, .pointer (some ⟨g6693, 0, none⟩)), (17, .bool (false))] (by simp only [dec_f h6695, Bool.not_true, Bool.not_false]) ?_
      refine EL.quick 49 [4] [(4, .bool (false))] (by kernel_rfl) ?_
      refine EL.done (by kernel_rfl) ?_
      refine EQ.code ?_
      refine EW.ret (by kernel_rfl) ?_
      obtain rfl := Option.some.inj H
      exact EQ.leave (.bool (false)) (by kernel_rfl) ⟨_, rfl, rfl, (hS.re [] [0, 0] rfl (sub_self))⟩
  · rw [if_neg h6694] at H
    refine EL.keep [2, 3, 10] [(2, .pointer (some ⟨g6692, 0, none⟩)), (3, .pointer (some ⟨g6693, 0, none⟩)), (10, .bool (decide (a6514 = a6528)))] (by kernel_rfl) ?_
    refine EL.as' [(2, .pointer (some ⟨g6692, 0, none⟩)), (3, .pointer (some ⟨g6693, 0, none⟩)), (10, .bool (false))] (by simp only [dec_f h6694, Bool.not_true, Bool.not_false]) ?_
    refine EL.quick 56 [4] [(4, .bool (false))] (by kernel_rfl) ?_
    refine EL.done (by kernel_rfl) ?_
    refine EQ.code ?_
    refine EW.ret (by kernel_rfl) ?_
    obtain rfl := Option.some.inj H
    exact EQ.leave (.bool (false)) (by kernel_rfl) ⟨_, rfl, rfl, (hS.re [] [0, 0] rfl (sub_self))⟩

/-! ### confidant/confidantref9.SameAll: function 21 -/
def confidantref9_SameAll.l0 (K : Nat) (l6499 : List S36) (l6502 : List S36) : Nat → Int → Option Bool
  | 0, _ => none
  | n + 1, x6843 => if x6843 < (l6499.length : Int) then (if 0 ≤ x6843 then (if x6843 < (l6502.length : Int) then (b1 (confidantref9_Same.f K ((l6499.getD x6843.toNat zS36).f0) ((l6499.getD x6843.toNat zS36).f1) ((l6499.getD x6843.toNat zS36).f2) ((l6499.getD x6843.toNat zS36).f3) ((l6499.getD x6843.toNat zS36).f4.f0) ((l6499.getD x6843.toNat zS36).f4.f1) ((l6499.getD x6843.toNat zS36).f4.f2) ((l6499.getD x6843.toNat zS36).f4.f3) ((l6499.getD x6843.toNat zS36).f5) ((l6499.getD x6843.toNat zS36).f6) ((l6499.getD x6843.toNat zS36).f7) ((l6499.getD x6843.toNat zS36).f8) ((l6502.getD x6843.toNat zS36).f0) ((l6502.getD x6843.toNat zS36).f1) ((l6502.getD x6843.toNat zS36).f2) ((l6502.getD x6843.toNat zS36).f3) ((l6502.getD x6843.toNat zS36).f4.f0) ((l6502.getD x6843.toNat zS36).f4.f1) ((l6502.getD x6843.toNat zS36).f4.f2) ((l6502.getD x6843.toNat zS36).f4.f3) ((l6502.getD x6843.toNat zS36).f5) ((l6502.getD x6843.toNat zS36).f6) ((l6502.getD x6843.toNat zS36).f7) ((l6502.getD x6843.toNat zS36).f8)) fun (t6915 : Bool) => (if t6915 = true then (confidantref9_SameAll.l0 K l6499 l6502 n (IntKind.i64.wrap (x6843 + 1))) else (some false))) else none) else none) else (some true)
def confidantref9_SameAll.f (K : Nat) (l6499 : List S36) (l6502 : List S36) : Option Bool := if (l6499.length : Int) = (l6502.length : Int) then (confidantref9_SameAll.l0 K l6499 l6502 K 0) else (some false)
set_option maxRecDepth 100000 in
theorem confidantref9_SameAll.calls {K : Nat} {l6499 : List S36} {l6502 : List S36} {A6500 : Option Addr} {C6501 : Nat} {A6503 : Option Addr} {C6504 : Nat} {x6806 : Bool} {B w : World} {os : List Ass} {rs : List Ro} (H : confidantref9_SameAll.f K l6499 l6502 = some x6806) (hS : St B w (os) (Ro.sl kS36 A6500 C6501 l6499 :: Ro.sl kS36 A6503 C6504 l6502 :: rs)) :
    Calls Try.prog 21 [.slice A6500 l6499.length C6501, .slice A6503 l6502.length C6504].toArray w (fun en w' => ∃ v, en = .returned v ∧ v = .bool (x6806) ∧ St B w' (os) (Ro.sl kS36 A6500 C6501 l6499 :: Ro.sl kS36 A6503 C6504 l6502 :: rs)) := by
  unfold confidantref9_SameAll.f at H
  refine calls_of_EW (args := [.slice A6500 l6499.length C6501, .slice A6503 l6502.length C6504]) (c := Cd21) 27 Try.func21 (by kernel_rfl) (by kernel_rfl) (by kernel_rfl) ?_
  refine EW.seq (x := Cd21.l) (y := Cd21.r) (by kernel_rfl) ?_
  refine EW.region (id := 0) (ops := Cd21.l.ops) (by kernel_rfl) ?_
  refine EL.quick 1 [0, 1] [(0, .slice A6500 l6499.length C6501), (1, .slice A6503 l6502.length C6504)] (by kernel_rfl) ?_
  refine EL.done (by kernel_rfl) ?_
  refine EQ.code ?_
  refine EW.seq (x := Cd21.r.l) (y := Cd21.r.r) (by kernel_rfl) ?_
  refine EW.seq (x := Cd21.r.l.l) (y := Cd21.r.l.r) (by kernel_rfl) ?_
  refine EW.region (id := 1) (ops := Cd21.r.l.l.ops) (by kernel_rfl) ?_
  refine EL.quick 5 [0, 1, 10] [(0, .slice A6500 l6499.length C6501), (1, .slice A6503 l6502.length C6504), (10, .bool (!(decide ((l6499.length : Int) = (l6502.length : Int)))))] (by kernel_rfl) ?_
  refine EL.done (by kernel_rfl) ?_
  refine EQ.code ?_
  refine EW.condQ (b := !(decide ((l6499.length : Int) = (l6502.length : Int)))) (o := (.tmp 10)) (x := Cd21.r.l.r.l) (y := Cd21.r.l.r.r) ((l6499.length : Int) = (l6502.length : Int)) (false) (by kernel_rfl) (by kernel_rfl) ⟨fun h => (by rw [decide_eq_true h] <;> rfl), fun h => (by rw [decide_eq_false h] <;> rfl)⟩ (fun h6808 => ?_) (fun h6808 => ?_)
  · rw [if_pos h6808] at H
    refine EW.skip (by kernel_rfl) ?_
    refine EQ.code ?_
    refine EW.seq (x := Cd21.r.r.l) (y := Cd21.r.r.r) (by kernel_rfl) ?_
    refine EW.seq (x := Cd21.r.r.l.l) (y := Cd21.r.r.l.r) (by kernel_rfl) ?_
    refine EW.region (id := 3) (ops := Cd21.r.r.l.l.ops) (by kernel_rfl) ?_
    refine EL.quick 1 [0, 1, 5] [(0, .slice A6500 l6499.length C6501), (1, .slice A6503 l6502.length C6504), (5, .int .i64 0)] (by kernel_rfl) ?_
    refine EL.done (by kernel_rfl) ?_
    refine EQ.code ?_
    refine EW.block (x := Cd21.r.r.l.r.l) (id := 0) (by kernel_rfl) ?_
    refine EW.loop (x := Cd21.r.r.l.r.l.l) (fun n a w => ∃ x6843 : Int, Sat 27 [(0, .slice A6500 l6499.length C6501), (1, .slice A6503 l6502.length C6504), (5, .int .i64 x6843)] a ∧ St B w (os) (Ro.sl kS36 A6500 C6501 l6499 :: Ro.sl kS36 A6503 C6504 l6502 :: rs) ∧ confidantref9_SameAll.l0 K l6499 l6502 n x6843 = some x6806) K (by kernel_rfl) ?_ (fun n a w hI => ?_)
    · refine EQ.keep [0, 1, 5] [(0, .slice A6500 l6499.length C6501), (1, .slice A6503 l6502.length C6504), (5, .int .i64 0)] (by kernel_rfl) ?_
      exact fun a ha => ⟨0, ha, (hS.re [] [] rfl (sub_cons 0 rfl (sub_cons 1 rfl (sub_tail (sub_tail (sub_self)))))), H⟩
    · obtain ⟨x6843, ha, hS, H⟩ := hI
      obtain _ | n := n
      · simp [confidantref9_SameAll.l0] at H
      rw [confidantref9_SameAll.l0.eq_2] at H
      refine EW.at ?_ a ha
      clear ha a
      refine EW.seq (x := Cd21.r.r.l.r.l.l.l) (y := Cd21.r.r.l.r.l.l.r) (by kernel_rfl) ?_
      refine EW.seq (x := Cd21.r.r.l.r.l.l.l.l) (y := Cd21.r.r.l.r.l.l.l.r) (by kernel_rfl) ?_
      refine EW.region (id := 4) (ops := Cd21.r.r.l.r.l.l.l.l.ops) (by kernel_rfl) ?_
      refine EL.quick 4 [0, 1, 5, 14] [(0, .slice A6500 l6499.length C6501), (1, .slice A6503 l6502.length C6504), (5, .int .i64 x6843), (14, .bool (decide (x6843 < (l6499.length : Int))))] (by kernel_rfl) ?_
      refine EL.done (by kernel_rfl) ?_
      refine EQ.code ?_
      refine EW.condP (o := (.tmp 14)) (x := Cd21.r.r.l.r.l.l.l.r.l) (y := Cd21.r.r.l.r.l.l.l.r.r) (x6843 < (l6499.length : Int)) (by kernel_rfl) (by kernel_rfl) (fun h6883 => ?_) (fun h6883 => ?_)
      · rw [if_pos h6883] at H
        refine EW.skip (by kernel_rfl) ?_
        refine EQ.code ?_
        refine EW.seq (x := Cd21.r.r.l.r.l.l.r.l) (y := Cd21.r.r.l.r.l.l.r.r) (by kernel_rfl) ?_
        refine EW.block (x := Cd21.r.r.l.r.l.l.r.l.l) (id := 1) (by kernel_rfl) ?_
        refine EW.seq (x := Cd21.r.r.l.r.l.l.r.l.l.l) (y := Cd21.r.r.l.r.l.l.r.l.l.r) (by kernel_rfl) ?_
        obtain ⟨h6909, H⟩ := ite_in H
        obtain ⟨ad6910, rfl⟩ := St.rd_some hS (Rd.ro 0 rfl) h6909 h6883
        obtain ⟨h6912, H⟩ := ite_in H
        obtain ⟨ad6913, rfl⟩ := St.rd_some hS (Rd.ro 1 rfl) h6909 h6912
        obtain ⟨t6915, hc6916, H⟩ := b1_out H
        refine EW.meet (id := 6) (ops := Cd21.r.r.l.r.l.l.r.l.l.l.ops) (fun a w => Sat 27 [(0, .slice (some ad6910) l6499.length C6501), (1, .slice (some ad6913) l6502.length C6504), (5, .int .i64 x6843), (26, .bool (!(t6915)))] a ∧ St B w (os) (Ro.sl kS36 (some ad6910) C6501 l6499 :: Ro.sl kS36 (some ad6913) C6504 l6502 :: rs)) (by kernel_rfl) ?_ (fun a w hI => ?_)
        · have hS := hS.drew
          refine EW.draw (B := B) (id := 6) (ops := Cd21.r.r.l.r.l.l.r.l.l.l.ops) [] [Ro.sl kS36 (some ad6910) C6501 l6499, Ro.sl kS36 (some ad6913) C6504 l6502] (by kernel_rfl) (by kernel_rfl) ?_
          have hN : Region.noSelect Cd21.r.r.l.r.l.l.r.l.l.l.ops = true := (by kernel_rfl)
          have hF : freeAll Cd21.r.r.l.r.l.l.r.l.l.l.ops = true := (by kernel_rfl)
          have hC : Core B [] [Ro.sl kS36 (some ad6910) C6501 l6499, Ro.sl kS36 (some ad6913) C6504 l6502] _ := ⟨_, _, hS⟩
          refine ED.quick hN hF hC [0, 1, 4, 5] [0, 1, 5, 17, 18, 21, 22] 6 [(0, .slice (some ad6910) l6499.length C6501), (1, .slice (some ad6913) l6502.length C6504), (5, .int .i64 x6843), (17, .slice (some ad6910) l6499.length C6501), (18, .int .i64 x6843), (21, .slice (some ad6913) l6502.length C6504), (22, .int .i64 x6843)] #[true, true, false, false, true, true, false, false, false, false] (by kernel_rfl) (by kernel_rfl) ?_
          refine ED.Y hN hF hC 2 5 #[true, true, true, false, true, true, false, false, false, false] (by kernel_rfl) (by kernel_rfl) rfl (fun _ _ _ hS => YO.idx 37 12 ad6910 l6499.length C6501 .i64 x6843 19 (by kernel_rfl) (by kernel_rfl) (by kernel_rfl) (by kernel_rfl) h6909 h6883) ?_
          refine ED.Y hN hF hC 6 4 #[true, true, true, false, true, true, true, false, false, false] (by kernel_rfl) (by kernel_rfl) rfl (fun _ _ _ hS => YO.idx 37 12 ad6913 l6502.length C6504 .i64 x6843 23 (by kernel_rfl) (by kernel_rfl) (by kernel_rfl) (by kernel_rfl) h6909 h6912) ?_
          refine ED.two 3 7 3 (by kernel_rfl) (by kernel_rfl) ?_ ?_
          · refine EO.loadPt hS kS36 ad6910 C6501 l6499 (Rd.ro 0 rfl) zS36 cellsS36 factsS36 partsS36 x6843 h6909 h6883 36 12 0 12 rfl (fun b6921 => .agg #[.int .i32 ((l6499.getD x6843.toNat zS36).f0), .int .i64 ((l6499.getD x6843.toNat zS36).f1), .int .i64 ((l6499.getD x6843.toNat zS36).f2), .slice b6921.1 ((l6499.getD x6843.toNat zS36).f3).length b6921.2, .int .i32 ((l6499.getD x6843.toNat zS36).f4.f0), .int .i32 ((l6499.getD x6843.toNat zS36).f4.f1), .int .i32 ((l6499.getD x6843.toNat zS36).f4.f2), .int .i32 ((l6499.getD x6843.toNat zS36).f4.f3), .int .i64 ((l6499.getD x6843.toNat zS36).f5), .int .i64 ((l6499.getD x6843.toNat zS36).f6), .int .u32 ((l6499.getD x6843.toNat zS36).f7), .int .i64 ((l6499.getD x6843.toNat zS36).f8)]) 20 (by kernel_rfl) (by kernel_rfl) (by kernel_rfl) (fun b6921 => (by kernel_rfl)) ?_
            intro b6921 hS
            have hC : Core B [] [Ro.sl kS36 (some ad6910) C6501 l6499, Ro.sl kS36 (some ad6913) C6504 l6502] _ := ⟨_, _, hS.re [] [] rfl (sub_cons 1 rfl (sub_cons 2 rfl sub_self))⟩
            refine ⟨hC, ?_⟩
            refine ED.at' #[true, true, true, true, true, true, true, false, false, false] (by kernel_rfl) ?_
            refine ED.one 7 2 #[true, true, true, true, true, true, true, true, false, false] (by kernel_rfl) (by kernel_rfl) (by kernel_rfl) (EO.loadPt hS kS36 ad6913 C6504 l6502 (Rd.ro 2 rfl) zS36 cellsS36 factsS36 partsS36 x6843 h6909 h6912 36 12 0 12 rfl (fun b6922 => .agg #[.int .i32 ((l6502.getD x6843.toNat zS36).f0), .int .i64 ((l6502.getD x6843.toNat zS36).f1), .int .i64 ((l6502.getD x6843.toNat zS36).f2), .slice b6922.1 ((l6502.getD x6843.toNat zS36).f3).length b6922.2, .int .i32 ((l6502.getD x6843.toNat zS36).f4.f0), .int .i32 ((l6502.getD x6843.toNat zS36).f4.f1), .int .i32 ((l6502.getD x6843.toNat zS36).f4.f2), .int .i32 ((l6502.getD x6843.toNat zS36).f4.f3), .int .i64 ((l6502.getD x6843.toNat zS36).f5), .int .i64 ((l6502.getD x6843.toNat zS36).f6), .int .u32 ((l6502.getD x6843.toNat zS36).f7), .int .i64 ((l6502.getD x6843.toNat zS36).f8)]) 24 (by kernel_rfl) (by kernel_rfl) (by kernel_rfl) (fun b6922 => (by kernel_rfl)) ?_)
            intro b6922 hS
            have hC : Core B [] [Ro.sl kS36 (some ad6910) C6501 l6499, Ro.sl kS36 (some ad6913) C6504 l6502] _ := ⟨_, _, hS.re [] [] rfl (sub_cons 2 rfl (sub_cons 3 rfl sub_self))⟩
            refine ⟨hC, ?_⟩
            have hS : St B _ (os) (Ro.sl (Kd.int .i32) b6921.1 b6921.2 ((l6499.getD x6843.toNat zS36).f3) :: Ro.sl (Kd.int .i32) b6922.1 b6922.2 ((l6502.getD x6843.toNat zS36).f3) :: Ro.sl (Kd.int .i32) b6922.1 b6922.2 ((l6502.getD x6843.toNat zS36).f3) :: Ro.sl (Kd.int .i32) b6921.1 b6921.2 ((l6499.getD x6843.toNat zS36).f3) :: Ro.sl kS36 (some ad6910) C6501 l6499 :: Ro.sl kS36 (some ad6913) C6504 l6502 :: rs) := hS.re [] [] rfl (sub_cons 1 rfl (sub_cons 0 rfl sub_self))
            refine ED.one 8 1 #[true, true, true, true, true, true, true, true, true, false] (by kernel_rfl) (by kernel_rfl) (by kernel_rfl) (EO.callD 26 [.agg #[.int .i32 ((l6499.getD x6843.toNat zS36).f0), .int .i64 ((l6499.getD x6843.toNat zS36).f1), .int .i64 ((l6499.getD x6843.toNat zS36).f2), .slice b6921.1 ((l6499.getD x6843.toNat zS36).f3).length b6921.2, .int .i32 ((l6499.getD x6843.toNat zS36).f4.f0), .int .i32 ((l6499.getD x6843.toNat zS36).f4.f1), .int .i32 ((l6499.getD x6843.toNat zS36).f4.f2), .int .i32 ((l6499.getD x6843.toNat zS36).f4.f3), .int .i64 ((l6499.getD x6843.toNat zS36).f5), .int .i64 ((l6499.getD x6843.toNat zS36).f6), .int .u32 ((l6499.getD x6843.toNat zS36).f7), .int .i64 ((l6499.getD x6843.toNat zS36).f8)], .agg #[.int .i32 ((l6502.getD x6843.toNat zS36).f0), .int .i64 ((l6502.getD x6843.toNat zS36).f1), .int .i64 ((l6502.getD x6843.toNat zS36).f2), .slice b6922.1 ((l6502.getD x6843.toNat zS36).f3).length b6922.2, .int .i32 ((l6502.getD x6843.toNat zS36).f4.f0), .int .i32 ((l6502.getD x6843.toNat zS36).f4.f1), .int .i32 ((l6502.getD x6843.toNat zS36).f4.f2), .int .i32 ((l6502.getD x6843.toNat zS36).f4.f3), .int .i64 ((l6502.getD x6843.toNat zS36).f5), .int .i64 ((l6502.getD x6843.toNat zS36).f6), .int .u32 ((l6502.getD x6843.toNat zS36).f7), .int .i64 ((l6502.getD x6843.toNat zS36).f8)]] _ 25 (by kernel_rfl) (by kernel_rfl) (by kernel_rfl) (confidantref9_Same.calls hc6916 hS) ?_)
            rintro v w ⟨rfl, hS⟩
            have hC : Core B [] [Ro.sl kS36 (some ad6910) C6501 l6499, Ro.sl kS36 (some ad6913) C6504 l6502] _ := ⟨_, _, hS.re [] [] rfl (sub_cons 4 rfl (sub_cons 5 rfl sub_self))⟩
            refine ⟨hC, ?_⟩
            refine ED.quick hN hF hC [9] [0, 1, 5, 26] 0 [(0, .slice (some ad6910) l6499.length C6501), (1, .slice (some ad6913) l6502.length C6504), (5, .int .i64 x6843), (26, .bool (!(t6915)))] #[true, true, true, true, true, true, true, true, true, true] (by kernel_rfl) (by kernel_rfl) ?_
            refine ED.done (by kernel_rfl) ?_
            refine EQ.to ?_
            refine EQ.keep [0, 1, 5, 26] [(0, .slice (some ad6910) l6499.length C6501), (1, .slice (some ad6913) l6502.length C6504), (5, .int .i64 x6843), (26, .bool (!(t6915)))] (by kernel_rfl) ?_
            exact fun a ha => ⟨ha, (hS.re [] [] rfl (sub_cons 4 rfl (sub_cons 5 rfl (sub_tail (sub_tail (sub_tail (sub_tail (sub_tail (sub_tail (sub_self))))))))))⟩
          · refine EO.loadPt hS kS36 ad6913 C6504 l6502 (Rd.ro 1 rfl) zS36 cellsS36 factsS36 partsS36 x6843 h6909 h6912 36 12 0 12 rfl (fun b6923 => .agg #[.int .i32 ((l6502.getD x6843.toNat zS36).f0), .int .i64 ((l6502.getD x6843.toNat zS36).f1), .int .i64 ((l6502.getD x6843.toNat zS36).f2), .slice b6923.1 ((l6502.getD x6843.toNat zS36).f3).length b6923.2, .int .i32 ((l6502.getD x6843.toNat zS36).f4.f0), .int .i32 ((l6502.getD x6843.toNat zS36).f4.f1), .int .i32 ((l6502.getD x6843.toNat zS36).f4.f2), .int .i32 ((l6502.getD x6843.toNat zS36).f4.f3), .int .i64 ((l6502.getD x6843.toNat zS36).f5), .int .i64 ((l6502.getD x6843.toNat zS36).f6), .int .u32 ((l6502.getD x6843.toNat zS36).f7), .int .i64 ((l6502.getD x6843.toNat zS36).f8)]) 24 (by kernel_rfl) (by kernel_rfl) (by kernel_rfl) (fun b6923 => (by kernel_rfl)) ?_
            intro b6923 hS
            have hC : Core B [] [Ro.sl kS36 (some ad6910) C6501 l6499, Ro.sl kS36 (some ad6913) C6504 l6502] _ := ⟨_, _, hS.re [] [] rfl (sub_cons 1 rfl (sub_cons 2 rfl sub_self))⟩
            refine ⟨hC, ?_⟩
            refine ED.at' #[true, true, true, false, true, true, true, true, false, false] (by kernel_rfl) ?_
            refine ED.one 3 2 #[true, true, true, true, true, true, true, true, false, false] (by kernel_rfl) (by kernel_rfl) (by kernel_rfl) (EO.loadPt hS kS36 ad6910 C6501 l6499 (Rd.ro 1 rfl) zS36 cellsS36 factsS36 partsS36 x6843 h6909 h6883 36 12 0 12 rfl (fun b6924 => .agg #[.int .i32 ((l6499.getD x6843.toNat zS36).f0), .int .i64 ((l6499.getD x6843.toNat zS36).f1), .int .i64 ((l6499.getD x6843.toNat zS36).f2), .slice b6924.1 ((l6499.getD x6843.toNat zS36).f3).length b6924.2, .int .i32 ((l6499.getD x6843.toNat zS36).f4.f0), .int .i32 ((l6499.getD x6843.toNat zS36).f4.f1), .int .i32 ((l6499.getD x6843.toNat zS36).f4.f2), .int .i32 ((l6499.getD x6843.toNat zS36).f4.f3), .int .i64 ((l6499.getD x6843.toNat zS36).f5), .int .i64 ((l6499.getD x6843.toNat zS36).f6), .int .u32 ((l6499.getD x6843.toNat zS36).f7), .int .i64 ((l6499.getD x6843.toNat zS36).f8)]) 20 (by kernel_rfl) (by kernel_rfl) (by kernel_rfl) (fun b6924 => (by kernel_rfl)) ?_)
            intro b6924 hS
            have hC : Core B [] [Ro.sl kS36 (some ad6910) C6501 l6499, Ro.sl kS36 (some ad6913) C6504 l6502] _ := ⟨_, _, hS.re [] [] rfl (sub_cons 2 rfl (sub_cons 3 rfl sub_self))⟩
            refine ⟨hC, ?_⟩
            have hS : St B _ (os) (Ro.sl (Kd.int .i32) b6924.1 b6924.2 ((l6499.getD x6843.toNat zS36).f3) :: Ro.sl (Kd.int .i32) b6923.1 b6923.2 ((l6502.getD x6843.toNat zS36).f3) :: Ro.sl (Kd.int .i32) b6924.1 b6924.2 ((l6499.getD x6843.toNat zS36).f3) :: Ro.sl (Kd.int .i32) b6923.1 b6923.2 ((l6502.getD x6843.toNat zS36).f3) :: Ro.sl kS36 (some ad6910) C6501 l6499 :: Ro.sl kS36 (some ad6913) C6504 l6502 :: rs) := hS.re [] [] rfl (sub_cons 0 rfl (sub_cons 1 rfl sub_self))
            refine ED.one 8 1 #[true, true, true, true, true, true, true, true, true, false] (by kernel_rfl) (by kernel_rfl) (by kernel_rfl) (EO.callD 26 [.agg #[.int .i32 ((l6499.getD x6843.toNat zS36).f0), .int .i64 ((l6499.getD x6843.toNat zS36).f1), .int .i64 ((l6499.getD x6843.toNat zS36).f2), .slice b6924.1 ((l6499.getD x6843.toNat zS36).f3).length b6924.2, .int .i32 ((l6499.getD x6843.toNat zS36).f4.f0), .int .i32 ((l6499.getD x6843.toNat zS36).f4.f1), .int .i32 ((l6499.getD x6843.toNat zS36).f4.f2), .int .i32 ((l6499.getD x6843.toNat zS36).f4.f3), .int .i64 ((l6499.getD x6843.toNat zS36).f5), .int .i64 ((l6499.getD x6843.toNat zS36).f6), .int .u32 ((l6499.getD x6843.toNat zS36).f7), .int .i64 ((l6499.getD x6843.toNat zS36).f8)], .agg #[.int .i32 ((l6502.getD x6843.toNat zS36).f0), .int .i64 ((l6502.getD x6843.toNat zS36).f1), .int .i64 ((l6502.getD x6843.toNat zS36).f2), .slice b6923.1 ((l6502.getD x6843.toNat zS36).f3).length b6923.2, .int .i32 ((l6502.getD x6843.toNat zS36).f4.f0), .int .i32 ((l6502.getD x6843.toNat zS36).f4.f1), .int .i32 ((l6502.getD x6843.toNat zS36).f4.f2), .int .i32 ((l6502.getD x6843.toNat zS36).f4.f3), .int .i64 ((l6502.getD x6843.toNat zS36).f5), .int .i64 ((l6502.getD x6843.toNat zS36).f6), .int .u32 ((l6502.getD x6843.toNat zS36).f7), .int .i64 ((l6502.getD x6843.toNat zS36).f8)]] _ 25 (by kernel_rfl) (by kernel_rfl) (by kernel_rfl) (confidantref9_Same.calls hc6916 hS) ?_)
            rintro v w ⟨rfl, hS⟩
            have hC : Core B [] [Ro.sl kS36 (some ad6910) C6501 l6499, Ro.sl kS36 (some ad6913) C6504 l6502] _ := ⟨_, _, hS.re [] [] rfl (sub_cons 4 rfl (sub_cons 5 rfl sub_self))⟩
            refine ⟨hC, ?_⟩
            refine ED.quick hN hF hC [9] [0, 1, 5, 26] 0 [(0, .slice (some ad6910) l6499.length C6501), (1, .slice (some ad6913) l6502.length C6504), (5, .int .i64 x6843), (26, .bool (!(t6915)))] #[true, true, true, true, true, true, true, true, true, true] (by kernel_rfl) (by kernel_rfl) ?_
            refine ED.done (by kernel_rfl) ?_
            refine EQ.to ?_
            refine EQ.keep [0, 1, 5, 26] [(0, .slice (some ad6910) l6499.length C6501), (1, .slice (some ad6913) l6502.length C6504), (5, .int .i64 x6843), (26, .bool (!(t6915)))] (by kernel_rfl) ?_
            exact fun a ha => ⟨ha, (hS.re [] [] rfl (sub_cons 4 rfl (sub_cons 5 rfl (sub_tail (sub_tail (sub_tail (sub_tail (sub_tail (sub_tail (sub_self))))))))))⟩
        · obtain ⟨ha, hS⟩ := hI
          refine EQ.at ?_ a ha
          clear ha a
          refine EQ.code ?_
          refine EW.condQ (b := !(t6915)) (o := (.tmp 26)) (x := Cd21.r.r.l.r.l.l.r.l.l.r.l) (y := Cd21.r.r.l.r.l.l.r.l.l.r.r) (t6915 = true) (false) (by kernel_rfl) (by kernel_rfl) ⟨fun h => (by rw [h] <;> rfl), fun h => (by rw [Bool.eq_false_iff.2 h] <;> rfl)⟩ (fun h6925 => ?_) (fun h6925 => ?_)
          · rw [if_pos h6925] at H
            refine EW.skip (by kernel_rfl) ?_
            refine EQ.pop ?_
            refine EQ.code ?_
            refine EW.region (id := 5) (ops := Cd21.r.r.l.r.l.l.r.r.ops) (by kernel_rfl) ?_
            refine EL.quick 3 [0, 1, 5] [(0, .slice (some ad6910) l6499.length C6501), (1, .slice (some ad6913) l6502.length C6504), (5, .int .i64 (IntKind.i64.wrap (x6843 + 1)))] (by kernel_rfl) ?_
            refine EL.done (by kernel_rfl) ?_
            refine EQ.to ?_
            refine EQ.keep [0, 1, 5] [(0, .slice (some ad6910) l6499.length C6501), (1, .slice (some ad6913) l6502.length C6504), (5, .int .i64 (IntKind.i64.wrap (x6843 + 1)))] (by kernel_rfl) ?_
            exact fun a ha => ⟨n, Nat.lt_succ_self n, IntKind.i64.wrap (x6843 + 1), ha, (hS.re [] [] rfl (sub_cons 0 rfl (sub_cons 1 rfl (sub_tail (sub_tail (sub_self)))))), H⟩
          · rw [if_neg h6925] at H
            refine EW.seq (x := Cd21.r.r.l.r.l.l.r.l.l.r.l.l) (y := Cd21.r.r.l.r.l.l.r.l.l.r.l.r) (by kernel_rfl) ?_
            refine EW.region (id := 7) (ops := Cd21.r.r.l.r.l.l.r.l.l.r.l.l.ops) (by kernel_rfl) ?_
            refine EL.quick 1 [4] [(4, .bool (false))] (by kernel_rfl) ?_
            refine EL.done (by kernel_rfl) ?_
            refine EQ.code ?_
            refine EW.ret (by kernel_rfl) ?_
            refine EQ.ret ?_
            refine EQ.ret ?_
            refine EQ.ret ?_
            refine EQ.ret ?_
            refine EQ.ret ?_
            obtain rfl := Option.some.inj H
            exact EQ.leave (.bool (false)) (by kernel_rfl) ⟨_, rfl, rfl, (hS.re [] [] rfl (sub_self))⟩
      · rw [if_neg h6883] at H
        refine EW.exit (id := 0) (by kernel_rfl) ?_
        refine EQ.exitCode ?_
        refine EQ.exitTo ?_
        refine EQ.exitHere ?_
        refine EQ.code ?_
        refine EW.seq (x := Cd21.r.r.r.l) (y := Cd21.r.r.r.r) (by kernel_rfl) ?_
        refine EW.region (id := 8) (ops := Cd21.r.r.r.l.ops) (by kernel_rfl) ?_
        refine EL.quick 1 [4] [(4, .bool (true))] (by kernel_rfl) ?_
        refine EL.done (by kernel_rfl) ?_
        refine EQ.code ?_
        refine EW.ret (by kernel_rfl) ?_
        obtain rfl := Option.some.inj H
        exact EQ.leave (.bool (true)) (by kernel_rfl) ⟨_, rfl, rfl, (hS.re [] [] rfl (sub_self))⟩
  · rw [if_neg h6808] at H
    refine EW.seq (x := Cd21.r.l.r.l.l) (y := Cd21.r.l.r.l.r) (by kernel_rfl) ?_
    refine EW.region (id := 2) (ops := Cd21.r.l.r.l.l.ops) (by kernel_rfl) ?_
    refine EL.quick 1 [4] [(4, .bool (false))] (by kernel_rfl) ?_
    refine EL.done (by kernel_rfl) ?_
    refine EQ.code ?_
    refine EW.ret (by kernel_rfl) ?_
    refine EQ.ret ?_
    obtain rfl := Option.some.inj H
    exact EQ.leave (.bool (false)) (by kernel_rfl) ⟨_, rfl, rfl, (hS.re [] [] rfl (sub_self))⟩

/-! ### (*confidant/confidantref12.Futures).end: function 49 -/
def confidantref12_Futures_end.f (K : Nat) (l6973 : List Int) (l6977 : List (List S96)) (a6981 : Int) (a6982 : Int) (a6983 : Int) (a6984 : Int) : Option (List (List S96) × Bool) := b2 (confidantref12_Futures_Get.f K l6973 l6977 a6981) fun (t7028 : S96) (t7029 : Bool) => (lt (fun (x7042 : Bool) => (if x7042 = true then (some (l6977, false)) else (b1 (confidantref9_Label.f K a6981) fun (t7046 : Int) => (if 0 ≤ t7046 then (if t7046 < (l6977.length : Int) then (b1 (confidantref9_Number.f K a6981) fun (t7053 : Int) => (if 0 ≤ t7053 then (if t7053 < ((l6977.getD t7046.toNat []).length : Int) then (lt ((l6977.getD t7046.toNat []).set t7053.toNat (⟨t7028.f0, a6982, a6983, a6984⟩ : S96)) fun l7058 => (some ((l6977.set t7046.toNat l7058), true))) else none) else none)) else none) else none)))) fun j7043 => (if t7029 = true then (j7043 (!(decide (t7028.f1 = 0)))) else (j7043 true)))
set_option maxRecDepth 100000 in
theorem confidantref12_Futures_end.calls {K : Nat} {l6973 : List Int} {l6977 : List (List S96)} {a6981 : Int} {a6982 : Int} {a6983 : Int} {a6984 : Int} {g6972 : Nat} {A6974 : Option Addr} {C6975 : Nat} {A6978 : Option Addr} {C6979 : Nat} {x7020 : List (List S96)} {x7023 : Bool} {B w : World} {os : List Ass} {rs : List Ro} (H : confidantref12_Futures_end.f K l6973 l6977 a6981 a6982 a6983 a6984 = some (x7020, x7023)) (hS : St B w (Ass.box 105 g6972 [.slice A6974 l6973.length C6975, .slice A6978 l6977.length C6979] :: Ass.own 3 (Kd.int .i64) A6974 C6975 l6973 :: Ass.deep 94 96 kS96 A6978 C6979 l6977 :: os) (rs)) :
    Calls Try.prog 49 [.pointer (some ⟨g6972, 0, none⟩), .int .i32 a6981, .int .i64 a6982, .int .i32 a6983, .int .i64 a6984].toArray w (fun en w' => ∃ v, en = .returned v ∧ ∃ A7021 : Option Addr, ∃ C7022 : Nat, v = .bool (x7023) ∧ St B w' (Ass.box 105 g6972 [.slice A6974 l6973.length C6975, .slice A7021 x7020.length C7022] :: Ass.own 3 (Kd.int .i64) A6974 C6975 l6973 :: Ass.deep 94 96 kS96 A7021 C7022 x7020 :: os) (rs)) := by
  unfold confidantref12_Futures_end.f at H
  refine calls_of_EW (args := [.pointer (some ⟨g6972, 0, none⟩), .int .i32 a6981, .int .i64 a6982, .int .i32 a6983, .int .i64 a6984]) (c := Cd49) 44 Try.func49 (by kernel_rfl) (by kernel_rfl) (by kernel_rfl) ?_
  refine EW.seq (x := Cd49.l) (y := Cd49.r) (by kernel_rfl) ?_
  refine EW.region (id := 0) (ops := Cd49.l.ops) (by kernel_rfl) ?_
  refine EL.quick 1 [0, 1, 2, 3, 4] [(0, .pointer (some ⟨g6972, 0, none⟩)), (1, .int .i32 a6981), (2, .int .i64 a6982), (3, .int .i32 a6983), (4, .int .i64 a6984)] (by kernel_rfl) ?_
  refine EL.done (by kernel_rfl) ?_
  refine EQ.code ?_
  refine EW.seq (x := Cd49.r.l) (y := Cd49.r.r) (by kernel_rfl) ?_
  refine EW.region (id := 1) (ops := Cd49.r.l.ops) (by kernel_rfl) ?_
  refine EL.quick 2 [0, 1, 2, 3, 4, 14, 15] [(0, .pointer (some ⟨g6972, 0, none⟩)), (1, .int .i32 a6981), (2, .int .i64 a6982), (3, .int .i32 a6983), (4, .int .i64 a6984), (14, .pointer (some ⟨g6972, 0, none⟩)), (15, .int .i32 a6981)] (by kernel_rfl) ?_
  obtain ⟨t7028, t7029, hc7030, H⟩ := b2_out H
  refine EL.of (EO.callD 48 [.pointer (some ⟨g6972, 0, none⟩), .int .i32 a6981] _ 16 (by kernel_rfl) (by kernel_rfl) (by kernel_rfl) (confidantref12_Futures_Get.calls hc7030 hS) ?_)
  rintro v w ⟨rfl, hS⟩
  refine EL.quick 3 [0, 1, 2, 3, 4, 17, 18] [(0, .pointer (some ⟨g6972, 0, none⟩)), (1, .int .i32 a6981), (2, .int .i64 a6982), (3, .int .i32 a6983), (4, .int .i64 a6984), (17, .agg #[.int .i64 t7028.f0, .int .i64 t7028.f1, .int .i32 t7028.f2, .int .i64 t7028.f3]), (18, .bool (t7029))] (by kernel_rfl) ?_
  refine EL.of (EO.alloc hS 96 (.agg #[.int .i64 0, .int .i64 0, .int .i32 0, .int .i64 0]) [.int .i64 0, .int .i64 0, .int .i32 0, .int .i64 0] 11 (by kernel_rfl) (by kernel_rfl) (by kernel_rfl) (by kernel_rfl) (by first | rfl | kernel_rfl) ?_)
  intro g7031 w hS
  refine EL.of (EO.storeBox (os' := Ass.box 96 g7031 [.int .i64 t7028.f0, .int .i64 t7028.f1, .int .i32 t7028.f2, .int .i64 t7028.f3] :: Ass.box 105 g6972 [.slice A6974 l6973.length C6975, .slice A6978 l6977.length C6979] :: Ass.own 3 (Kd.int .i64) A6974 C6975 l6973 :: Ass.deep 94 96 kS96 A6978 C6979 l6977 :: os) hS 0 rfl 96 0 (.agg #[.int .i64 t7028.f0, .int .i64 t7028.f1, .int .i32 t7028.f2, .int .i64 t7028.f3]) [.int .i64 t7028.f0, .int .i64 t7028.f1, .int .i32 t7028.f2, .int .i64 t7028.f3] (by kernel_rfl) (by kernel_rfl) (by kernel_rfl) (by kernel_rfl) (by kernel_rfl) (by kernel_rfl) rfl rfl ?_)
  intro w hS
  refine EL.quick 1 [0, 1, 2, 3, 4, 11, 12] [(0, .pointer (some ⟨g6972, 0, none⟩)), (1, .int .i32 a6981), (2, .int .i64 a6982), (3, .int .i32 a6983), (4, .int .i64 a6984), (11, .pointer (some ⟨g7031, 0, none⟩)), (12, .bool (t7029))] (by kernel_rfl) ?_
  refine EL.done (by kernel_rfl) ?_
  refine EQ.code ?_
  refine EW.seq (x := Cd49.r.r.l) (y := Cd49.r.r.r) (by kernel_rfl) ?_
  obtain ⟨j7043, hj7043, H⟩ := lt_out H
  refine EW.cut (x := Cd49.r.r.l.l) (y := Cd49.r.r.l.r) (fun a w => ∃ x7042 : Bool, Sat 44 [(0, .pointer (some ⟨g6972, 0, none⟩)), (1, .int .i32 a6981), (2, .int .i64 a6982), (3, .int .i32 a6983), (4, .int .i64 a6984), (11, .pointer (some ⟨g7031, 0, none⟩)), (25, .bool (x7042))] a ∧ St B w (Ass.box 96 g7031 [.int .i64 t7028.f0, .int .i64 t7028.f1, .int .i32 t7028.f2, .int .i64 t7028.f3] :: Ass.box 105 g6972 [.slice A6974 l6973.length C6975, .slice A6978 l6977.length C6979] :: Ass.own 3 (Kd.int .i64) A6974 C6975 l6973 :: Ass.deep 94 96 kS96 A6978 C6979 l6977 :: os) (rs) ∧ j7043 x7042 = some (x7020, x7023)) (by kernel_rfl) ?_ (fun a w hI => ?_)
  · refine EW.region (id := 2) (ops := Cd49.r.r.l.l.ops) (by kernel_rfl) ?_
    refine EL.quick 3 [0, 1, 2, 3, 4, 11, 21] [(0, .pointer (some ⟨g6972, 0, none⟩)), (1, .int .i32 a6981), (2, .int .i64 a6982), (3, .int .i32 a6983), (4, .int .i64 a6984), (11, .pointer (some ⟨g7031, 0, none⟩)), (21, .bool (!(t7029)))] (by kernel_rfl) ?_
    by_cases h7044 : t7029 = true
    · rw [if_pos h7044] at H
      refine EL.keep [0, 1, 2, 3, 4, 11, 21] [(0, .pointer (some ⟨g6972, 0, none⟩)), (1, .int .i32 a6981), (2, .int .i64 a6982), (3, .int .i32 a6983), (4, .int .i64 a6984), (11, .pointer (some ⟨g7031, 0, none⟩)), (21, .bool (!(t7029)))] (by kernel_rfl) ?_
      refine EL.as' [(0, .pointer (some ⟨g6972, 0, none⟩)), (1, .int .i32 a6981), (2, .int .i64 a6982), (3, .int .i32 a6983), (4, .int .i64 a6984), (11, .pointer (some ⟨g7031, 0, none⟩)), (21, .bool (false))] (by simp only [h7044, Bool.not_true, Bool.not_false]) ?_
      refine EL.quick 1 [0, 1, 2, 3, 4, 11, 21, 22] [(0, .pointer (some ⟨g6972, 0, none⟩)), (1, .int .i32 a6981), (2, .int .i64 a6982), (3, .int .i32 a6983), (4, .int .i64 a6984), (11, .pointer (some ⟨g7031, 0, none⟩)), (21, .bool (false)), (22, .pointer (some ⟨g7031, 1, none⟩))] (by kernel_rfl) ?_
      refine EL.of (EO.Y (YO.loadBox hS 0 rfl 3 1 1 (.int .i64 t7028.f1) 23 (by kernel_rfl) (by kernel_rfl) (by kernel_rfl) (by kernel_rfl)) ?_)
      refine EL.quick 2 [0, 1, 2, 3, 4, 11, 25] [(0, .pointer (some ⟨g6972, 0, none⟩)), (1, .int .i32 a6981), (2, .int .i64 a6982), (3, .int .i32 a6983), (4, .int .i64 a6984), (11, .pointer (some ⟨g7031, 0, none⟩)), (25, .bool (!(decide (t7028.f1 = 0))))] (by kernel_rfl) ?_
      refine EL.done (by kernel_rfl) ?_
      refine EQ.to ?_
      refine EQ.keep [0, 1, 2, 3, 4, 11, 25] [(0, .pointer (some ⟨g6972, 0, none⟩)), (1, .int .i32 a6981), (2, .int .i64 a6982), (3, .int .i32 a6983), (4, .int .i64 a6984), (11, .pointer (some ⟨g7031, 0, none⟩)), (25, .bool (!(decide (t7028.f1 = 0))))] (by kernel_rfl) ?_
      exact fun a ha => ⟨!(decide (t7028.f1 = 0)), ha, (hS.re [3, 3, 3, 3] [] rfl (sub_self)), H⟩
    · rw [if_neg h7044] at H
      refine EL.keep [0, 1, 2, 3, 4, 11, 21] [(0, .pointer (some ⟨g6972, 0, none⟩)), (1, .int .i32 a6981), (2, .int .i64 a6982), (3, .int .i32 a6983), (4, .int .i64 a6984), (11, .pointer (some ⟨g7031, 0, none⟩)), (21, .bool (!(t7029)))] (by kernel_rfl) ?_
      refine EL.as' [(0, .pointer (some ⟨g6972, 0, none⟩)), (1, .int .i32 a6981), (2, .int .i64 a6982), (3, .int .i32 a6983), (4, .int .i64 a6984), (11, .pointer (some ⟨g7031, 0, none⟩)), (21, .bool (true))] (by simp only [(Bool.eq_false_iff.2 h7044), Bool.not_true, Bool.not_false]) ?_
      refine EL.quick 4 [0, 1, 2, 3, 4, 11, 25] [(0, .pointer (some ⟨g6972, 0, none⟩)), (1, .int .i32 a6981), (2, .int .i64 a6982), (3, .int .i32 a6983), (4, .int .i64 a6984), (11, .pointer (some ⟨g7031, 0, none⟩)), (25, .bool (true))] (by kernel_rfl) ?_
      refine EL.done (by kernel_rfl) ?_
      refine EQ.to ?_
      refine EQ.keep [0, 1, 2, 3, 4, 11, 25] [(0, .pointer (some ⟨g6972, 0, none⟩)), (1, .int .i32 a6981), (2, .int .i64 a6982), (3, .int .i32 a6983), (4, .int .i64 a6984), (11, .pointer (some ⟨g7031, 0, none⟩)), (25, .bool (true))] (by kernel_rfl) ?_
      exact fun a ha => ⟨true, ha, (hS.re [3, 3, 3, 3] [] rfl (sub_self)), H⟩
  · obtain ⟨x7042, ha, hS, H⟩ := hI
    rw [hj7043] at H
    (try dsimp only at H)
    refine EW.at ?_ a ha
    clear ha a
    refine EW.condP' (o := (.tmp 25)) (x := Cd49.r.r.l.r.l) (y := Cd49.r.r.l.r.r) (x7042) (by kernel_rfl) (by kernel_rfl) (fun h7045 => ?_) (fun h7045 => ?_)
    · rw [if_pos h7045] at H
      refine EW.seq (x := Cd49.r.r.l.r.l.l) (y := Cd49.r.r.l.r.l.r) (by kernel_rfl) ?_
      refine EW.region (id := 3) (ops := Cd49.r.r.l.r.l.l.ops) (by kernel_rfl) ?_
      refine EL.quick 1 [10] [(10, .bool (false))] (by kernel_rfl) ?_
      refine EL.done (by kernel_rfl) ?_
      refine EQ.code ?_
      refine EW.ret (by kernel_rfl) ?_
      refine EQ.ret ?_
      simp only [Option.some.injEq, Prod.mk.injEq] at H
      obtain ⟨rfl, rfl⟩ := H
      exact EQ.leave (.bool (false)) (by kernel_rfl) ⟨_, rfl, A6978, C6979, rfl, (hS.re [3, 3, 3] [3] rfl (sub_self))⟩
    · rw [if_neg h7045] at H
      refine EW.skip (by kernel_rfl) ?_
      refine EQ.code ?_
      refine EW.seq (x := Cd49.r.r.r.l) (y := Cd49.r.r.r.r) (by kernel_rfl) ?_
      refine EW.region (id := 4) (ops := Cd49.r.r.r.l.ops) (by kernel_rfl) ?_
      refine EL.quick 4 [0, 1, 11, 26, 27, 28, 29] [(0, .pointer (some ⟨g6972, 0, none⟩)), (1, .int .i32 a6981), (11, .pointer (some ⟨g7031, 0, none⟩)), (26, .int .i64 a6982), (27, .int .i32 a6983), (28, .int .i64 a6984), (29, .pointer (some ⟨g7031, 1, none⟩))] (by kernel_rfl) ?_
      refine EL.of (EO.storeBox (os' := Ass.box 96 g7031 [.int .i64 t7028.f0, .int .i64 a6982, .int .i32 t7028.f2, .int .i64 t7028.f3] :: Ass.box 105 g6972 [.slice A6974 l6973.length C6975, .slice A6978 l6977.length C6979] :: Ass.own 3 (Kd.int .i64) A6974 C6975 l6973 :: Ass.deep 94 96 kS96 A6978 C6979 l6977 :: os) hS 0 rfl 3 1 (.int .i64 a6982) [.int .i64 t7028.f0, .int .i64 a6982, .int .i32 t7028.f2, .int .i64 t7028.f3] (by kernel_rfl) (by kernel_rfl) (by kernel_rfl) (by kernel_rfl) (by kernel_rfl) (by kernel_rfl) rfl rfl ?_)
      intro w hS
      refine EL.quick 1 [0, 1, 11, 27, 28, 30] [(0, .pointer (some ⟨g6972, 0, none⟩)), (1, .int .i32 a6981), (11, .pointer (some ⟨g7031, 0, none⟩)), (27, .int .i32 a6983), (28, .int .i64 a6984), (30, .pointer (some ⟨g7031, 2, none⟩))] (by kernel_rfl) ?_
      refine EL.of (EO.storeBox (os' := Ass.box 96 g7031 [.int .i64 t7028.f0, .int .i64 a6982, .int .i32 a6983, .int .i64 t7028.f3] :: Ass.box 105 g6972 [.slice A6974 l6973.length C6975, .slice A6978 l6977.length C6979] :: Ass.own 3 (Kd.int .i64) A6974 C6975 l6973 :: Ass.deep 94 96 kS96 A6978 C6979 l6977 :: os) hS 0 rfl 21 2 (.int .i32 a6983) [.int .i64 t7028.f0, .int .i64 a6982, .int .i32 a6983, .int .i64 t7028.f3] (by kernel_rfl) (by kernel_rfl) (by kernel_rfl) (by kernel_rfl) (by kernel_rfl) (by kernel_rfl) rfl rfl ?_)
      intro w hS
      refine EL.quick 1 [0, 1, 11, 28, 31] [(0, .pointer (some ⟨g6972, 0, none⟩)), (1, .int .i32 a6981), (11, .pointer (some ⟨g7031, 0, none⟩)), (28, .int .i64 a6984), (31, .pointer (some ⟨g7031, 3, none⟩))] (by kernel_rfl) ?_
      refine EL.of (EO.storeBox (os' := Ass.box 96 g7031 [.int .i64 t7028.f0, .int .i64 a6982, .int .i32 a6983, .int .i64 a6984] :: Ass.box 105 g6972 [.slice A6974 l6973.length C6975, .slice A6978 l6977.length C6979] :: Ass.own 3 (Kd.int .i64) A6974 C6975 l6973 :: Ass.deep 94 96 kS96 A6978 C6979 l6977 :: os) hS 0 rfl 57 3 (.int .i64 a6984) [.int .i64 t7028.f0, .int .i64 a6982, .int .i32 a6983, .int .i64 a6984] (by kernel_rfl) (by kernel_rfl) (by kernel_rfl) (by kernel_rfl) (by kernel_rfl) (by kernel_rfl) rfl rfl ?_)
      intro w hS
      refine EL.done (by kernel_rfl) ?_
      refine EQ.code ?_
      refine EW.seq (x := Cd49.r.r.r.r.l) (y := Cd49.r.r.r.r.r) (by kernel_rfl) ?_
      obtain ⟨t7046, hc7047, H⟩ := b1_out H
      obtain ⟨h7048, H⟩ := ite_in H
      obtain ⟨h7049, H⟩ := ite_in H
      obtain ⟨ad7050, rfl⟩ := St.deep_some hS 3 rfl h7048 h7049
      obtain ⟨t7053, hc7054, H⟩ := b1_out H
      obtain ⟨h7055, H⟩ := ite_in H
      obtain ⟨h7056, H⟩ := ite_in H
      obtain ⟨l7058, hl7058, H⟩ := lt_out H
      refine EW.meet (id := 5) (ops := Cd49.r.r.r.r.l.ops) (fun a w => Sat 44 [] a ∧ St B w (Ass.box 96 g7031 [.int .i64 t7028.f0, .int .i64 a6982, .int .i32 a6983, .int .i64 a6984] :: Ass.box 105 g6972 [.slice A6974 l6973.length C6975, .slice (some ad7050) (l6977.set t7046.toNat l7058).length C6979] :: Ass.own 3 (Kd.int .i64) A6974 C6975 l6973 :: Ass.deep 94 96 kS96 (some ad7050) C6979 (l6977.set t7046.toNat l7058) :: os) (rs)) (by kernel_rfl) ?_ (fun a w hI => ?_)
      · have hS := hS.drew
        refine EW.draw (B := B) (id := 5) (ops := Cd49.r.r.r.r.l.ops) [Ass.box 96 g7031 [.int .i64 t7028.f0, .int .i64 a6982, .int .i32 a6983, .int .i64 a6984], Ass.box 105 g6972 [.slice A6974 l6973.length C6975, .slice (some ad7050) l6977.length C6979], Ass.own 3 (Kd.int .i64) A6974 C6975 l6973] [] (by kernel_rfl) (by kernel_rfl) ?_
        have hN : Region.noSelect Cd49.r.r.r.r.l.ops = true := (by kernel_rfl)
        have hF : freeAll Cd49.r.r.r.r.l.ops = true := (by kernel_rfl)
        have hC : Core B [Ass.box 96 g7031 [.int .i64 t7028.f0, .int .i64 a6982, .int .i32 a6983, .int .i64 a6984], Ass.box 105 g6972 [.slice A6974 l6973.length C6975, .slice (some ad7050) l6977.length C6979], Ass.own 3 (Kd.int .i64) A6974 C6975 l6973] [] _ := ⟨_, _, hS⟩
        refine ED.quick hN hF hC [0, 1, 2, 4, 8] [11, 34, 36, 40] 8 [(11, .pointer (some ⟨g7031, 0, none⟩)), (34, .pointer (some ⟨g6972, 1, none⟩)), (36, .int .i32 a6981), (40, .int .i32 a6981)] #[true, true, true, false, true, false, false, false, true, false, false, false, false] (by kernel_rfl) (by kernel_rfl) ?_
        refine ED.Y hN hF hC 3 7 #[true, true, true, true, true, false, false, false, true, false, false, false, false] (by kernel_rfl) (by kernel_rfl) rfl (fun _ _ _ hS => YO.loadBox hS 1 rfl 89 1 1 (.slice (some ad7050) l6977.length C6979) 35 (by kernel_rfl) (by kernel_rfl) (by kernel_rfl) (by kernel_rfl)) ?_
        refine ED.Y hN hF hC 10 6 #[true, true, true, true, true, false, false, false, true, false, true, false, false] (by kernel_rfl) (by kernel_rfl) rfl (fun _ _ _ hS => YO.loadBox hS 0 rfl 96 0 4 (.agg #[.int .i64 t7028.f0, .int .i64 a6982, .int .i32 a6983, .int .i64 a6984]) 42 (by kernel_rfl) (by kernel_rfl) (by kernel_rfl) (by kernel_rfl)) ?_
        refine ED.one 5 5 #[true, true, true, true, true, true, false, false, true, false, true, false, false] (by kernel_rfl) (by kernel_rfl) (by kernel_rfl) (EO.callD 69 [.int .i32 a6981] _ 37 (by kernel_rfl) (by kernel_rfl) (by kernel_rfl) (confidantref9_Label.calls hc7047 hS) ?_)
        rintro v w ⟨rfl, hS⟩
        have hC : Core B [Ass.box 96 g7031 [.int .i64 t7028.f0, .int .i64 a6982, .int .i32 a6983, .int .i64 a6984], Ass.box 105 g6972 [.slice A6974 l6973.length C6975, .slice (some ad7050) l6977.length C6979], Ass.own 3 (Kd.int .i64) A6974 C6975 l6973] [] _ := ⟨_, _, hS⟩
        refine ⟨hC, ?_⟩
        refine ED.Y hN hF hC 6 4 #[true, true, true, true, true, true, true, false, true, false, true, false, false] (by kernel_rfl) (by kernel_rfl) rfl (fun _ _ _ hS => YO.idx 89 1 ad7050 l6977.length C6979 .i64 t7046 38 (by kernel_rfl) (by kernel_rfl) (by kernel_rfl) (by kernel_rfl) h7048 h7049) ?_
        refine ED.two 7 9 3 (by kernel_rfl) (by kernel_rfl) ?_ ?_
        · refine EO.openEl hS 3 ad7050 rfl t7046 h7048 h7049 (fun A7065 C7066 => Ass.box 96 g7031 [.int .i64 t7028.f0, .int .i64 a6982, .int .i32 a6983, .int .i64 a6984] :: Ass.box 105 g6972 [.slice A6974 l6973.length C6975, .slice (some ad7050) l6977.length C6979] :: Ass.own 3 (Kd.int .i64) A6974 C6975 l6973 :: Ass.holed 94 96 kS96 (some ad7050) C6979 l6977 t7046.toNat (A7065, (l6977.getD t7046.toNat []).length, C7066) :: os) 94 39 (by kernel_rfl) (by kernel_rfl) (by kernel_rfl) (by kernel_rfl) (fun _ _ => rfl) ?_
          intro A7065 C7066 hS
          have hC : Core B [Ass.box 96 g7031 [.int .i64 t7028.f0, .int .i64 a6982, .int .i32 a6983, .int .i64 a6984], Ass.box 105 g6972 [.slice A6974 l6973.length C6975, .slice (some ad7050) l6977.length C6979], Ass.own 3 (Kd.int .i64) A6974 C6975 l6973] [] _ := ⟨_, _, hS.re [3, 3, 3] [] rfl sub_self⟩
          refine ⟨hC, ?_⟩
          refine ED.at' #[true, true, true, true, true, true, true, true, true, false, true, false, false] (by kernel_rfl) ?_
          refine ED.one 9 2 #[true, true, true, true, true, true, true, true, true, true, true, false, false] (by kernel_rfl) (by kernel_rfl) (by kernel_rfl) (EO.callD 68 [.int .i32 a6981] _ 41 (by kernel_rfl) (by kernel_rfl) (by kernel_rfl) (confidantref9_Number.calls hc7054 hS) ?_)
          rintro v w ⟨rfl, hS⟩
          have hC : Core B [Ass.box 96 g7031 [.int .i64 t7028.f0, .int .i64 a6982, .int .i32 a6983, .int .i64 a6984], Ass.box 105 g6972 [.slice A6974 l6973.length C6975, .slice (some ad7050) l6977.length C6979], Ass.own 3 (Kd.int .i64) A6974 C6975 l6973] [] _ := ⟨_, _, hS.re [3, 3, 3] [] rfl sub_self⟩
          refine ⟨hC, ?_⟩
          obtain ⟨ad7067, rfl⟩ := St.rd_some hS (Rd.own 0 96 rfl) h7055 h7056
          refine ED.Y hN hF hC 11 1 #[true, true, true, true, true, true, true, true, true, true, true, true, false] (by kernel_rfl) (by kernel_rfl) rfl (fun _ _ _ hS => YO.idx 94 4 ad7067 (l6977.getD t7046.toNat []).length C7066 .i64 t7053 43 (by kernel_rfl) (by kernel_rfl) (by kernel_rfl) (by kernel_rfl) h7055 h7056) ?_
          refine ED.one 12 0 #[true, true, true, true, true, true, true, true, true, true, true, true, true] (by kernel_rfl) (by kernel_rfl) (by kernel_rfl) (EO.storeEl hS 0 kS96 96 ad7067 C7066 (l6977.getD t7046.toNat []) rfl t7053 h7055 h7056 zS96 96 4 0 rfl (.agg #[.int .i64 t7028.f0, .int .i64 a6982, .int .i32 a6983, .int .i64 a6984]) (⟨t7028.f0, a6982, a6983, a6984⟩ : S96) l7058 hl7058 (Ass.own 96 kS96 (some ad7067) C7066 l7058 :: Ass.box 96 g7031 [.int .i64 t7028.f0, .int .i64 a6982, .int .i32 a6983, .int .i64 a6984] :: Ass.box 105 g6972 [.slice A6974 l6973.length C6975, .slice (some ad7050) l6977.length C6979] :: Ass.own 3 (Kd.int .i64) A6974 C6975 l6973 :: Ass.holed 94 96 kS96 (some ad7050) C6979 l6977 t7046.toNat ((some ad7067), (l6977.getD t7046.toNat []).length, C7066) :: os) (by kernel_rfl) (by kernel_rfl) (by kernel_rfl) (by kernel_rfl) (by kernel_rfl) (by kernel_rfl) (fun w G vs hr h => set_whole h (by kernel_rfl) ⟨[.int .i64 t7028.f0], [.int .i64 a6982, .int .i32 a6983, .int .i64 a6984], rfl, rfl, ⟨[.int .i64 a6982], [.int .i32 a6983, .int .i64 a6984], rfl, rfl, ⟨[.int .i32 a6983], [.int .i64 a6984], rfl, rfl, ⟨[.int .i64 a6984], [], rfl, rfl, rfl⟩⟩⟩⟩) rfl ?_)
          intro w hS
          have hC : Core B [Ass.box 96 g7031 [.int .i64 t7028.f0, .int .i64 a6982, .int .i32 a6983, .int .i64 a6984], Ass.box 105 g6972 [.slice A6974 l6973.length C6975, .slice (some ad7050) l6977.length C6979], Ass.own 3 (Kd.int .i64) A6974 C6975 l6973] [] _ := ⟨_, _, hS.re [3, 3, 3] [] rfl sub_self⟩
          refine ⟨hC, ?_⟩
          refine ED.keep [11, 34, 35, 36, 37, 38, 39, 40, 41, 42, 43] [(11, .pointer (some ⟨g7031, 0, none⟩)), (34, .pointer (some ⟨g6972, 1, none⟩)), (35, .slice (some ad7050) l6977.length C6979), (36, .int .i32 a6981), (37, .int .i64 t7046), (38, .pointer (some ((ad7050.add (t7046.toNat * 1)).add 0))), (39, .slice (some ad7067) (l6977.getD t7046.toNat []).length C7066), (40, .int .i32 a6981), (41, .int .i64 t7053), (42, .agg #[.int .i64 t7028.f0, .int .i64 a6982, .int .i32 a6983, .int .i64 a6984]), (43, .pointer (some ((ad7067.add (t7053.toNat * 4)).add 0)))] (by kernel_rfl) ?_
          refine ED.as' [(11, .pointer (some ⟨g7031, 0, none⟩)), (34, .pointer (some ⟨g6972, 1, none⟩)), (35, .slice (some ad7050) l6977.length C6979), (36, .int .i32 a6981), (37, .int .i64 t7046), (38, .pointer (some ((ad7050.add (t7046.toNat * 1)).add 0))), (39, .slice (some ad7067) l7058.length C7066), (40, .int .i32 a6981), (41, .int .i64 t7053), (42, .agg #[.int .i64 t7028.f0, .int .i64 a6982, .int .i32 a6983, .int .i64 a6984]), (43, .pointer (some ((ad7067.add (t7053.toNat * 4)).add 0)))] (by simp only [hl7058, List.length_set]) ?_
          refine ED.done (by kernel_rfl) ?_
          have hS := St.as (os' := Ass.box 96 g7031 [.int .i64 t7028.f0, .int .i64 a6982, .int .i32 a6983, .int .i64 a6984] :: Ass.box 105 g6972 [.slice A6974 l6973.length C6975, .slice (some ad7050) l6977.length C6979] :: Ass.own 3 (Kd.int .i64) A6974 C6975 l6973 :: Ass.deep 94 96 kS96 (some ad7050) C6979 (l6977.set t7046.toNat l7058) :: os) (St.close hS 0 3 rfl rfl (len_set rfl hl7058) (l6977.set t7046.toNat l7058) rfl) rfl
          have hS := St.as hS (os' := Ass.box 96 g7031 [.int .i64 t7028.f0, .int .i64 a6982, .int .i32 a6983, .int .i64 a6984] :: Ass.box 105 g6972 [.slice A6974 l6973.length C6975, .slice (some ad7050) (l6977.set t7046.toNat l7058).length C6979] :: Ass.own 3 (Kd.int .i64) A6974 C6975 l6973 :: Ass.deep 94 96 kS96 (some ad7050) C6979 (l6977.set t7046.toNat l7058) :: os) (by simp only [List.length_set])
          refine EQ.to ?_
          refine EQ.keep [] [] (by kernel_rfl) ?_
          exact fun a ha => ⟨ha, (hS.re [3, 3, 3, 3] [] rfl (sub_self))⟩
        · refine EO.callD 68 [.int .i32 a6981] _ 41 (by kernel_rfl) (by kernel_rfl) (by kernel_rfl) (confidantref9_Number.calls hc7054 hS) ?_
          rintro v w ⟨rfl, hS⟩
          have hC : Core B [Ass.box 96 g7031 [.int .i64 t7028.f0, .int .i64 a6982, .int .i32 a6983, .int .i64 a6984], Ass.box 105 g6972 [.slice A6974 l6973.length C6975, .slice (some ad7050) l6977.length C6979], Ass.own 3 (Kd.int .i64) A6974 C6975 l6973] [] _ := ⟨_, _, hS⟩
          refine ⟨hC, ?_⟩
          refine ED.at' #[true, true, true, true, true, true, true, false, true, true, true, false, false] (by kernel_rfl) ?_
          refine ED.one 7 2 #[true, true, true, true, true, true, true, true, true, true, true, false, false] (by kernel_rfl) (by kernel_rfl) (by kernel_rfl) (EO.openEl hS 3 ad7050 rfl t7046 h7048 h7049 (fun A7068 C7069 => Ass.box 96 g7031 [.int .i64 t7028.f0, .int .i64 a6982, .int .i32 a6983, .int .i64 a6984] :: Ass.box 105 g6972 [.slice A6974 l6973.length C6975, .slice (some ad7050) l6977.length C6979] :: Ass.own 3 (Kd.int .i64) A6974 C6975 l6973 :: Ass.holed 94 96 kS96 (some ad7050) C6979 l6977 t7046.toNat (A7068, (l6977.getD t7046.toNat []).length, C7069) :: os) 94 39 (by kernel_rfl) (by kernel_rfl) (by kernel_rfl) (by kernel_rfl) (fun _ _ => rfl) ?_)
          intro A7068 C7069 hS
          have hC : Core B [Ass.box 96 g7031 [.int .i64 t7028.f0, .int .i64 a6982, .int .i32 a6983, .int .i64 a6984], Ass.box 105 g6972 [.slice A6974 l6973.length C6975, .slice (some ad7050) l6977.length C6979], Ass.own 3 (Kd.int .i64) A6974 C6975 l6973] [] _ := ⟨_, _, hS.re [3, 3, 3] [] rfl sub_self⟩
          refine ⟨hC, ?_⟩
          obtain ⟨ad7070, rfl⟩ := St.rd_some hS (Rd.own 0 96 rfl) h7055 h7056
          refine ED.Y hN hF hC 11 1 #[true, true, true, true, true, true, true, true, true, true, true, true, false] (by kernel_rfl) (by kernel_rfl) rfl (fun _ _ _ hS => YO.idx 94 4 ad7070 (l6977.getD t7046.toNat []).length C7069 .i64 t7053 43 (by kernel_rfl) (by kernel_rfl) (by kernel_rfl) (by kernel_rfl) h7055 h7056) ?_
          refine ED.one 12 0 #[true, true, true, true, true, true, true, true, true, true, true, true, true] (by kernel_rfl) (by kernel_rfl) (by kernel_rfl) (EO.storeEl hS 0 kS96 96 ad7070 C7069 (l6977.getD t7046.toNat []) rfl t7053 h7055 h7056 zS96 96 4 0 rfl (.agg #[.int .i64 t7028.f0, .int .i64 a6982, .int .i32 a6983, .int .i64 a6984]) (⟨t7028.f0, a6982, a6983, a6984⟩ : S96) l7058 hl7058 (Ass.own 96 kS96 (some ad7070) C7069 l7058 :: Ass.box 96 g7031 [.int .i64 t7028.f0, .int .i64 a6982, .int .i32 a6983, .int .i64 a6984] :: Ass.box 105 g6972 [.slice A6974 l6973.length C6975, .slice (some ad7050) l6977.length C6979] :: Ass.own 3 (Kd.int .i64) A6974 C6975 l6973 :: Ass.holed 94 96 kS96 (some ad7050) C6979 l6977 t7046.toNat ((some ad7070), (l6977.getD t7046.toNat []).length, C7069) :: os) (by kernel_rfl) (by kernel_rfl) (by kernel_rfl) (by kernel_rfl) (by kernel_rfl) (by kernel_rfl) (fun w G vs hr h => set_whole h (by kernel_rfl) ⟨[.int .i64 t7028.f0], [.int .i64 a6982, .int .i32 a6983, .int .i64 a6984], rfl, rfl, ⟨[.int .i64 a6982], [.int .i32 a6983, .int .i64 a6984], rfl, rfl, ⟨[.int .i32 a6983], [.int .i64 a6984], rfl, rfl, ⟨[.int .i64 a6984], [], rfl, rfl, rfl⟩⟩⟩⟩) rfl ?_)
          intro w hS
          have hC : Core B [Ass.box 96 g7031 [.int .i64 t7028.f0, .int .i64 a6982, .int .i32 a6983, .int .i64 a6984], Ass.box 105 g6972 [.slice A6974 l6973.length C6975, .slice (some ad7050) l6977.length C6979], Ass.own 3 (Kd.int .i64) A6974 C6975 l6973] [] _ := ⟨_, _, hS.re [3, 3, 3] [] rfl sub_self⟩
          refine ⟨hC, ?_⟩
          refine ED.keep [11, 34, 35, 36, 37, 38, 39, 40, 41, 42, 43] [(11, .pointer (some ⟨g7031, 0, none⟩)), (34, .pointer (some ⟨g6972, 1, none⟩)), (35, .slice (some ad7050) l6977.length C6979), (36, .int .i32 a6981), (37, .int .i64 t7046), (38, .pointer (some ((ad7050.add (t7046.toNat * 1)).add 0))), (39, .slice (some ad7070) (l6977.getD t7046.toNat []).length C7069), (40, .int .i32 a6981), (41, .int .i64 t7053), (42, .agg #[.int .i64 t7028.f0, .int .i64 a6982, .int .i32 a6983, .int .i64 a6984]), (43, .pointer (some ((ad7070.add (t7053.toNat * 4)).add 0)))] (by kernel_rfl) ?_
          refine ED.as' [(11, .pointer (some ⟨g7031, 0, none⟩)), (34, .pointer (some ⟨g6972, 1, none⟩)), (35, .slice (some ad7050) l6977.length C6979), (36, .int .i32 a6981), (37, .int .i64 t7046), (38, .pointer (some ((ad7050.add (t7046.toNat * 1)).add 0))), (39, .slice (some ad7070) l7058.length C7069), (40, .int .i32 a6981), (41, .int .i64 t7053), (42, .agg #[.int .i64 t7028.f0, .int .i64 a6982, .int .i32 a6983, .int .i64 a6984]), (43, .pointer (some ((ad7070.add (t7053.toNat * 4)).add 0)))] (by simp only [hl7058, List.length_set]) ?_
          refine ED.done (by kernel_rfl) ?_
          have hS := St.as (os' := Ass.box 96 g7031 [.int .i64 t7028.f0, .int .i64 a6982, .int .i32 a6983, .int .i64 a6984] :: Ass.box 105 g6972 [.slice A6974 l6973.length C6975, .slice (some ad7050) l6977.length C6979] :: Ass.own 3 (Kd.int .i64) A6974 C6975 l6973 :: Ass.deep 94 96 kS96 (some ad7050) C6979 (l6977.set t7046.toNat l7058) :: os) (St.close hS 0 3 rfl rfl (len_set rfl hl7058) (l6977.set t7046.toNat l7058) rfl) rfl
          have hS := St.as hS (os' := Ass.box 96 g7031 [.int .i64 t7028.f0, .int .i64 a6982, .int .i32 a6983, .int .i64 a6984] :: Ass.box 105 g6972 [.slice A6974 l6973.length C6975, .slice (some ad7050) (l6977.set t7046.toNat l7058).length C6979] :: Ass.own 3 (Kd.int .i64) A6974 C6975 l6973 :: Ass.deep 94 96 kS96 (some ad7050) C6979 (l6977.set t7046.toNat l7058) :: os) (by simp only [List.length_set])
          refine EQ.to ?_
          refine EQ.keep [] [] (by kernel_rfl) ?_
          exact fun a ha => ⟨ha, (hS.re [3, 3, 3, 3] [] rfl (sub_self))⟩
      · obtain ⟨ha, hS⟩ := hI
        refine EQ.at ?_ a ha
        clear ha a
        refine EQ.code ?_
        refine EW.seq (x := Cd49.r.r.r.r.r.l) (y := Cd49.r.r.r.r.r.r) (by kernel_rfl) ?_
        refine EW.region (id := 6) (ops := Cd49.r.r.r.r.r.l.ops) (by kernel_rfl) ?_
        refine EL.quick 1 [10] [(10, .bool (true))] (by kernel_rfl) ?_
        refine EL.done (by kernel_rfl) ?_
        refine EQ.code ?_
        refine EW.ret (by kernel_rfl) ?_
        simp only [Option.some.injEq, Prod.mk.injEq] at H
        obtain ⟨rfl, rfl⟩ := H
        exact EQ.leave (.bool (true)) (by kernel_rfl) ⟨_, rfl, (some ad7050), C6979, rfl, (hS.re [3, 3, 3] [3] rfl (sub_self))⟩

/-! ### (*confidant/confidantref12.Futures).Keep: function 22 -/
def confidantref12_Futures_Keep.f (K : Nat) (l6961 : List Int) (l6965 : List (List S96)) (a6969 : Int) (a6970 : Int) : Option (List (List S96) × Bool) := b2 (confidantref12_Futures_end.f K l6961 l6965 a6969 1 a6970 0) fun (t7080 : List (List S96)) (t7081 : Bool) => (some (t7080, t7081))
set_option maxRecDepth 100000 in
theorem confidantref12_Futures_Keep.calls {K : Nat} {l6961 : List Int} {l6965 : List (List S96)} {a6969 : Int} {a6970 : Int} {g6960 : Nat} {A6962 : Option Addr} {C6963 : Nat} {A6966 : Option Addr} {C6967 : Nat} {x7076 : List (List S96)} {x7079 : Bool} {B w : World} {os : List Ass} {rs : List Ro} (H : confidantref12_Futures_Keep.f K l6961 l6965 a6969 a6970 = some (x7076, x7079)) (hS : St B w (Ass.box 105 g6960 [.slice A6962 l6961.length C6963, .slice A6966 l6965.length C6967] :: Ass.own 3 (Kd.int .i64) A6962 C6963 l6961 :: Ass.deep 94 96 kS96 A6966 C6967 l6965 :: os) (rs)) :
    Calls Try.prog 22 [.pointer (some ⟨g6960, 0, none⟩), .int .i32 a6969, .int .i32 a6970].toArray w (fun en w' => ∃ v, en = .returned v ∧ ∃ A7077 : Option Addr, ∃ C7078 : Nat, v = .bool (x7079) ∧ St B w' (Ass.box 105 g6960 [.slice A6962 l6961.length C6963, .slice A7077 x7076.length C7078] :: Ass.own 3 (Kd.int .i64) A6962 C6963 l6961 :: Ass.deep 94 96 kS96 A7077 C7078 x7076 :: os) (rs)) := by
  unfold confidantref12_Futures_Keep.f at H
  refine calls_of_EW (args := [.pointer (some ⟨g6960, 0, none⟩), .int .i32 a6969, .int .i32 a6970]) (c := Cd22) 11 Try.func22 (by kernel_rfl) (by kernel_rfl) (by kernel_rfl) ?_
  refine EW.seq (x := Cd22.l) (y := Cd22.r) (by kernel_rfl) ?_
  refine EW.region (id := 0) (ops := Cd22.l.ops) (by kernel_rfl) ?_
  refine EL.quick 1 [0, 1, 2] [(0, .pointer (some ⟨g6960, 0, none⟩)), (1, .int .i32 a6969), (2, .int .i32 a6970)] (by kernel_rfl) ?_
  refine EL.done (by kernel_rfl) ?_
  refine EQ.code ?_
  refine EW.seq (x := Cd22.r.l) (y := Cd22.r.r) (by kernel_rfl) ?_
  refine EW.region (id := 1) (ops := Cd22.r.l.ops) (by kernel_rfl) ?_
  refine EL.quick 3 [7, 8, 9] [(7, .pointer (some ⟨g6960, 0, none⟩)), (8, .int .i32 a6969), (9, .int .i32 a6970)] (by kernel_rfl) ?_
  obtain ⟨t7080, t7081, hc7084, H⟩ := b2_out H
  refine EL.of (EO.callD 49 [.pointer (some ⟨g6960, 0, none⟩), .int .i32 a6969, .int .i64 1, .int .i32 a6970, .int .i64 0] _ 10 (by kernel_rfl) (by kernel_rfl) (by kernel_rfl) (confidantref12_Futures_end.calls hc7084 hS) ?_)
  rintro v w ⟨A7082, C7083, rfl, hS⟩
  refine EL.quick 1 [6] [(6, .bool (t7081))] (by kernel_rfl) ?_
  refine EL.done (by kernel_rfl) ?_
  refine EQ.code ?_
  refine EW.ret (by kernel_rfl) ?_
  simp only [Option.some.injEq, Prod.mk.injEq] at H
  obtain ⟨rfl, rfl⟩ := H
  exact EQ.leave (.bool (t7081)) (by kernel_rfl) ⟨_, rfl, A7082, C7083, rfl, (hS.re [2, 2, 2] [] rfl (sub_self))⟩

/-! ### (*confidant/future.Futures).Break: function 23 -/
def future_Futures_Break.f (K : Nat) (l7092 : List (List S96)) (l7096 : List Int) (a7100 : Int) (a7101 : Int) : Option (List (List S96) × Bool) := lt (fun (x8491 : List (List S96)) (x8494 : Bool) => (some (x8491, x8494))) fun j8495 => (b1 (ident_Label.f K a7100) fun (t8698 : Int) => (b1 (ident_Number.f K a7100) fun (t8700 : Int) => (lt (fun (x8742 : Bool) => (if x8742 = true then (j8495 l7092 false) else (if 0 ≤ t8698 then (if t8698 < (l7092.length : Int) then (if 0 ≤ t8700 then (if t8700 < ((l7092.getD t8698.toNat []).length : Int) then (if (((l7092.getD t8698.toNat []).getD t8700.toNat zS96).f1) = 0 then (lt ((l7092.getD t8698.toNat []).set t8700.toNat (⟨((l7092.getD t8698.toNat []).getD t8700.toNat zS96).f0, 2, ((l7092.getD t8698.toNat []).getD t8700.toNat zS96).f2, ((l7092.getD t8698.toNat []).getD t8700.toNat zS96).f3⟩ : S96)) fun l8769 => (lt (l8769.set t8700.toNat (⟨(l8769.getD t8700.toNat zS96).f0, (l8769.getD t8700.toNat zS96).f1, 0, (l8769.getD t8700.toNat zS96).f3⟩ : S96)) fun l8770 => (lt (l8770.set t8700.toNat (⟨(l8770.getD t8700.toNat zS96).f0, (l8770.getD t8700.toNat zS96).f1, (l8770.getD t8700.toNat zS96).f2, a7101⟩ : S96)) fun l8771 => (j8495 (l7092.set t8698.toNat l8771) true)))) else (j8495 l7092 false)) else none) else none) else none) else none))) fun j8743 => (if t8698 < 0 then (j8743 true) else (if t8698 ≥ (l7092.length : Int) then (j8743 true) else (if 0 ≤ t8698 then (if t8698 < (l7092.length : Int) then (j8743 (decide (t8700 ≥ ((l7092.getD t8698.toNat []).length : Int)))) else none) else none))))))
set_option maxRecDepth 100000 in
theorem future_Futures_Break.calls {K : Nat} {l7092 : List (List S96)} {l7096 : List Int} {a7100 : Int} {a7101 : Int} {g7091 : Nat} {A7093 : Option Addr} {C7094 : Nat} {A7097 : Option Addr} {C7098 : Nat} {x7935 : List (List S96)} {x7938 : Bool} {B w : World} {os : List Ass} {rs : List Ro} (H : future_Futures_Break.f K l7092 l7096 a7100 a7101 = some (x7935, x7938)) (hS : St B w (Ass.box 91 g7091 [.slice A7093 l7092.length C7094, .slice A7097 l7096.length C7098] :: Ass.deep 94 96 kS96 A7093 C7094 l7092 :: Ass.own 3 (Kd.int .i64) A7097 C7098 l7096 :: os) (rs)) :
    Calls Try.prog 23 [.pointer (some ⟨g7091, 0, none⟩), .int .i32 a7100, .int .i64 a7101].toArray w (fun en w' => ∃ v, en = .returned v ∧ ∃ A7936 : Option Addr, ∃ C7937 : Nat, v = .bool (x7938) ∧ St B w' (Ass.box 91 g7091 [.slice A7936 x7935.length C7937, .slice A7097 l7096.length C7098] :: Ass.deep 94 96 kS96 A7936 C7937 x7935 :: Ass.own 3 (Kd.int .i64) A7097 C7098 l7096 :: os) (rs)) := by
  unfold future_Futures_Break.f at H
  refine calls_of_EW (args := [.pointer (some ⟨g7091, 0, none⟩), .int .i32 a7100, .int .i64 a7101]) (c := Cd23) 13 Try.func23 (by kernel_rfl) (by kernel_rfl) (by kernel_rfl) ?_
  refine EW.seq (x := Cd23.l) (y := Cd23.r) (by kernel_rfl) ?_
  refine EW.region (id := 0) (ops := Cd23.l.ops) (by kernel_rfl) ?_
  refine EL.quick 1 [0, 1, 2] [(0, .pointer (some ⟨g7091, 0, none⟩)), (1, .int .i32 a7100), (2, .int .i64 a7101)] (by kernel_rfl) ?_
  refine EL.done (by kernel_rfl) ?_
  refine EQ.code ?_
  refine EW.seq (x := Cd23.r.l) (y := Cd23.r.r) (by kernel_rfl) ?_
  refine EW.region (id := 1) (ops := Cd23.r.l.ops) (by kernel_rfl) ?_
  refine EL.quick 5 [7, 8, 11] [(7, .pointer (some ⟨g7091, 0, none⟩)), (8, .int .i32 a7100), (11, .func (.func 43) #[.agg #[.int .i64 2, .int .i32 0, .int .i64 a7101]] #[])] (by kernel_rfl) ?_
  obtain ⟨j8495, hj8495, H⟩ := lt_out H
  refine EL.of (EO.callD 42 [.pointer (some ⟨g7091, 0, none⟩), .int .i32 a7100, .func (.func 43) #[.agg #[.int .i64 2, .int .i32 0, .int .i64 a7101]] #[]] (fun v w => ∃ x8491 : List (List S96), ∃ x8494 : Bool, ∃ A8492 : Option Addr, ∃ C8493 : Nat, v = .bool (x8494) ∧ St B w (Ass.box 91 g7091 [.slice A8492 x8491.length C8493, .slice A7097 l7096.length C7098] :: Ass.deep 94 96 kS96 A8492 C8493 x8491 :: Ass.own 3 (Kd.int .i64) A7097 C7098 l7096 :: os) (rs) ∧ j8495 x8491 x8494 = some (x7935, x7938)) 12 (by kernel_rfl) (by kernel_rfl) (by kernel_rfl) ?_ ?_)
  · refine calls_of_EW (args := [.pointer (some ⟨g7091, 0, none⟩), .int .i32 a7100, .func (.func 43) #[.agg #[.int .i64 2, .int .i32 0, .int .i64 a7101]] #[]]) (c := Cd42) 23 Try.func42 (by kernel_rfl) (by kernel_rfl) (by kernel_rfl) ?_
    refine EW.seq (x := Cd42.l) (y := Cd42.r) (by kernel_rfl) ?_
    refine EW.region (id := 0) (ops := Cd42.l.ops) (by kernel_rfl) ?_
    refine EL.quick 1 [0, 1, 2] [(0, .pointer (some ⟨g7091, 0, none⟩)), (1, .int .i32 a7100), (2, .func (.func 43) #[.agg #[.int .i64 2, .int .i32 0, .int .i64 a7101]] #[])] (by kernel_rfl) ?_
    refine EL.done (by kernel_rfl) ?_
    refine EQ.code ?_
    refine EW.seq (x := Cd42.r.l) (y := Cd42.r.r) (by kernel_rfl) ?_
    refine EW.region (id := 1) (ops := Cd42.r.l.ops) (by kernel_rfl) ?_
    refine EL.quick 2 [2, 8, 9] [(2, .func (.func 43) #[.agg #[.int .i64 2, .int .i32 0, .int .i64 a7101]] #[]), (8, .pointer (some ⟨g7091, 0, none⟩)), (9, .int .i32 a7100)] (by kernel_rfl) ?_
    refine EL.inline 64 [.pointer (some ⟨g7091, 0, none⟩), .int .i32 a7100] 10 (by kernel_rfl) (by kernel_rfl) (by kernel_rfl) ?_
    refine calls_of_EW (args := [.pointer (some ⟨g7091, 0, none⟩), .int .i32 a7100]) (c := Cd64) 43 Try.func64 (by kernel_rfl) (by kernel_rfl) (by kernel_rfl) ?_
    refine EW.seq (x := Cd64.l) (y := Cd64.r) (by kernel_rfl) ?_
    refine EW.region (id := 0) (ops := Cd64.l.ops) (by kernel_rfl) ?_
    refine EL.quick 1 [0, 1] [(0, .pointer (some ⟨g7091, 0, none⟩)), (1, .int .i32 a7100)] (by kernel_rfl) ?_
    refine EL.done (by kernel_rfl) ?_
    refine EQ.code ?_
    refine EW.seq (x := Cd64.r.l) (y := Cd64.r.r) (by kernel_rfl) ?_
    refine EW.region (id := 1) (ops := Cd64.r.l.ops) (by kernel_rfl) ?_
    refine EL.quick 1 [0, 1, 7] [(0, .pointer (some ⟨g7091, 0, none⟩)), (1, .int .i32 a7100), (7, .int .i32 a7100)] (by kernel_rfl) ?_
    obtain ⟨t8698, hc8699, H⟩ := b1_out H
    refine EL.of (EO.callD 73 [.int .i32 a7100] _ 8 (by kernel_rfl) (by kernel_rfl) (by kernel_rfl) (ident_Label.calls hc8699 hS) ?_)
    rintro v w ⟨rfl, hS⟩
    refine EL.quick 1 [0, 8, 9] [(0, .pointer (some ⟨g7091, 0, none⟩)), (8, .int .i64 t8698), (9, .int .i32 a7100)] (by kernel_rfl) ?_
    obtain ⟨t8700, hc8701, H⟩ := b1_out H
    refine EL.of (EO.callD 74 [.int .i32 a7100] _ 10 (by kernel_rfl) (by kernel_rfl) (by kernel_rfl) (ident_Number.calls hc8701 hS) ?_)
    rintro v w ⟨rfl, hS⟩
    refine EL.quick 2 [0, 5, 6] [(0, .pointer (some ⟨g7091, 0, none⟩)), (5, .int .i64 t8698), (6, .int .i64 t8700)] (by kernel_rfl) ?_
    refine EL.done (by kernel_rfl) ?_
    refine EQ.code ?_
    refine EW.seq (x := Cd64.r.r.l) (y := Cd64.r.r.r) (by kernel_rfl) ?_
    obtain ⟨j8743, hj8743, H⟩ := lt_out H
    refine EW.cut (x := Cd64.r.r.l.l) (y := Cd64.r.r.l.r) (fun a w => ∃ x8742 : Bool, Sat 43 [(0, .pointer (some ⟨g7091, 0, none⟩)), (5, .int .i64 t8698), (6, .int .i64 t8700), (33, .bool (x8742))] a ∧ St B w (Ass.box 91 g7091 [.slice A7093 l7092.length C7094, .slice A7097 l7096.length C7098] :: Ass.deep 94 96 kS96 A7093 C7094 l7092 :: Ass.own 3 (Kd.int .i64) A7097 C7098 l7096 :: os) (rs) ∧ j8743 x8742 = some (x7935, x7938)) (by kernel_rfl) ?_ (fun a w hI => ?_)
    · refine EW.region (id := 2) (ops := Cd64.r.r.l.l.ops) (by kernel_rfl) ?_
      refine EL.quick 3 [0, 5, 6, 13] [(0, .pointer (some ⟨g7091, 0, none⟩)), (5, .int .i64 t8698), (6, .int .i64 t8700), (13, .bool (decide (t8698 < 0)))] (by kernel_rfl) ?_
      by_cases h8744 : t8698 < 0
      · rw [if_pos h8744] at H
        refine EL.keep [0, 5, 6, 13] [(0, .pointer (some ⟨g7091, 0, none⟩)), (5, .int .i64 t8698), (6, .int .i64 t8700), (13, .bool (decide (t8698 < 0)))] (by kernel_rfl) ?_
        refine EL.as' [(0, .pointer (some ⟨g7091, 0, none⟩)), (5, .int .i64 t8698), (6, .int .i64 t8700), (13, .bool (true))] (by simp only [dec_t h8744, Bool.not_true, Bool.not_false]) ?_
        refine EL.quick 20 [0, 5, 6, 33] [(0, .pointer (some ⟨g7091, 0, none⟩)), (5, .int .i64 t8698), (6, .int .i64 t8700), (33, .bool (true))] (by kernel_rfl) ?_
        refine EL.done (by kernel_rfl) ?_
        refine EQ.to ?_
        refine EQ.keep [0, 5, 6, 33] [(0, .pointer (some ⟨g7091, 0, none⟩)), (5, .int .i64 t8698), (6, .int .i64 t8700), (33, .bool (true))] (by kernel_rfl) ?_
        exact fun a ha => ⟨true, ha, (hS.re [2, 2, 2] [] rfl (sub_self)), H⟩
      · rw [if_neg h8744] at H
        refine EL.keep [0, 5, 6, 13] [(0, .pointer (some ⟨g7091, 0, none⟩)), (5, .int .i64 t8698), (6, .int .i64 t8700), (13, .bool (decide (t8698 < 0)))] (by kernel_rfl) ?_
        refine EL.as' [(0, .pointer (some ⟨g7091, 0, none⟩)), (5, .int .i64 t8698), (6, .int .i64 t8700), (13, .bool (false))] (by simp only [dec_f h8744, Bool.not_true, Bool.not_false]) ?_
        refine EL.quick 4 [0, 5, 6, 13, 14, 17] [(0, .pointer (some ⟨g7091, 0, none⟩)), (5, .int .i64 t8698), (6, .int .i64 t8700), (13, .bool (false)), (14, .int .i64 t8698), (17, .pointer (some ⟨g7091, 0, none⟩))] (by kernel_rfl) ?_
        refine EL.of (EO.Y (YO.loadBox hS 0 rfl 89 0 1 (.slice A7093 l7092.length C7094) 18 (by kernel_rfl) (by kernel_rfl) (by kernel_rfl) (by kernel_rfl)) ?_)
        refine EL.quick 4 [0, 5, 6, 22] [(0, .pointer (some ⟨g7091, 0, none⟩)), (5, .int .i64 t8698), (6, .int .i64 t8700), (22, .bool (decide (t8698 ≥ (l7092.length : Int))))] (by kernel_rfl) ?_
        by_cases h8745 : t8698 ≥ (l7092.length : Int)
        · rw [if_pos h8745] at H
          refine EL.keep [0, 5, 6, 22] [(0, .pointer (some ⟨g7091, 0, none⟩)), (5, .int .i64 t8698), (6, .int .i64 t8700), (22, .bool (decide (t8698 ≥ (l7092.length : Int))))] (by kernel_rfl) ?_
          refine EL.as' [(0, .pointer (some ⟨g7091, 0, none⟩)), (5, .int .i64 t8698), (6, .int .i64 t8700), (22, .bool (true))] (by simp only [dec_t h8745, Bool.not_true, Bool.not_false]) ?_
          refine EL.quick 11 [0, 5, 6, 33] [(0, .pointer (some ⟨g7091, 0, none⟩)), (5, .int .i64 t8698), (6, .int .i64 t8700), (33, .bool (true))] (by kernel_rfl) ?_
          refine EL.done (by kernel_rfl) ?_
          refine EQ.to ?_
          refine EQ.keep [0, 5, 6, 33] [(0, .pointer (some ⟨g7091, 0, none⟩)), (5, .int .i64 t8698), (6, .int .i64 t8700), (33, .bool (true))] (by kernel_rfl) ?_
          exact fun a ha => ⟨true, ha, (hS.re [2, 2, 2] [] rfl (sub_self)), H⟩
        · rw [if_neg h8745] at H
          refine EL.keep [0, 5, 6, 22] [(0, .pointer (some ⟨g7091, 0, none⟩)), (5, .int .i64 t8698), (6, .int .i64 t8700), (22, .bool (decide (t8698 ≥ (l7092.length : Int))))] (by kernel_rfl) ?_
          refine EL.as' [(0, .pointer (some ⟨g7091, 0, none⟩)), (5, .int .i64 t8698), (6, .int .i64 t8700), (22, .bool (false))] (by simp only [dec_f h8745, Bool.not_true, Bool.not_false]) ?_
          refine EL.quick 4 [0, 5, 6, 22, 23, 26] [(0, .pointer (some ⟨g7091, 0, none⟩)), (5, .int .i64 t8698), (6, .int .i64 t8700), (22, .bool (false)), (23, .int .i64 t8700), (26, .pointer (some ⟨g7091, 0, none⟩))] (by kernel_rfl) ?_
          refine EL.of (EO.Y (YO.loadBox hS 0 rfl 89 0 1 (.slice A7093 l7092.length C7094) 27 (by kernel_rfl) (by kernel_rfl) (by kernel_rfl) (by kernel_rfl)) ?_)
          refine EL.quick 1 [0, 5, 6, 22, 23, 27, 28] [(0, .pointer (some ⟨g7091, 0, none⟩)), (5, .int .i64 t8698), (6, .int .i64 t8700), (22, .bool (false)), (23, .int .i64 t8700), (27, .slice A7093 l7092.length C7094), (28, .int .i64 t8698)] (by kernel_rfl) ?_
          obtain ⟨h8746, H⟩ := ite_in H
          obtain ⟨h8747, H⟩ := ite_in H
          obtain ⟨ad8748, rfl⟩ := St.deep_some hS 1 rfl h8746 h8747
          refine EL.of (EO.Y (YO.idx 89 1 ad8748 l7092.length C7094 .i64 t8698 29 (by kernel_rfl) (by kernel_rfl) (by kernel_rfl) (by kernel_rfl) h8746 h8747) ?_)
          refine EL.of (EO.openEl hS 1 ad8748 rfl t8698 h8746 h8747 (fun A8749 C8750 => Ass.box 91 g7091 [.slice (some ad8748) l7092.length C7094, .slice A7097 l7096.length C7098] :: Ass.holed 94 96 kS96 (some ad8748) C7094 l7092 t8698.toNat (A8749, (l7092.getD t8698.toNat []).length, C8750) :: Ass.own 3 (Kd.int .i64) A7097 C7098 l7096 :: os) 94 30 (by kernel_rfl) (by kernel_rfl) (by kernel_rfl) (by kernel_rfl) (fun _ _ => rfl) ?_)
          intro A8749 C8750 hS
          refine EL.quick 3 [0, 5, 6, 33] [(0, .pointer (some ⟨g7091, 0, none⟩)), (5, .int .i64 t8698), (6, .int .i64 t8700), (33, .bool (decide (t8700 ≥ ((l7092.getD t8698.toNat []).length : Int))))] (by kernel_rfl) ?_
          refine EL.done (by kernel_rfl) ?_
          refine EQ.to ?_
          have hS := St.as (os' := Ass.box 91 g7091 [.slice (some ad8748) l7092.length C7094, .slice A7097 l7096.length C7098] :: Ass.deep 94 96 kS96 (some ad8748) C7094 l7092 :: Ass.own 3 (Kd.int .i64) A7097 C7098 l7096 :: os) (St.close hS 0 1 rfl rfl rfl l7092 (set_getD _ _)) rfl
          refine EQ.keep [0, 5, 6, 33] [(0, .pointer (some ⟨g7091, 0, none⟩)), (5, .int .i64 t8698), (6, .int .i64 t8700), (33, .bool (decide (t8700 ≥ ((l7092.getD t8698.toNat []).length : Int))))] (by kernel_rfl) ?_
          exact fun a ha => ⟨decide (t8700 ≥ ((l7092.getD t8698.toNat []).length : Int)), ha, (hS.re [2, 2, 2] [] rfl (sub_self)), H⟩
    · obtain ⟨x8742, ha, hS, H⟩ := hI
      rw [hj8743] at H
      (try dsimp only at H)
      refine EW.at ?_ a ha
      clear ha a
      refine EW.condP' (o := (.tmp 33)) (x := Cd64.r.r.l.r.l) (y := Cd64.r.r.l.r.r) (x8742) (by kernel_rfl) (by kernel_rfl) (fun h8751 => ?_) (fun h8751 => ?_)
      · rw [if_pos h8751] at H
        refine EW.seq (x := Cd64.r.r.l.r.l.l) (y := Cd64.r.r.l.r.l.r) (by kernel_rfl) ?_
        refine EW.region (id := 3) (ops := Cd64.r.r.l.r.l.l.ops) (by kernel_rfl) ?_
        refine EL.quick 1 [4] [(4, .pointer none)] (by kernel_rfl) ?_
        refine EL.done (by kernel_rfl) ?_
        refine EQ.code ?_
        refine EW.ret (by kernel_rfl) ?_
        refine EQ.ret ?_
        refine EQ.leave (.pointer none) (by kernel_rfl) ⟨_, rfl, ?_⟩
        refine EL.quick 1 [2, 7] [(2, .func (.func 43) #[.agg #[.int .i64 2, .int .i32 0, .int .i64 a7101]] #[]), (7, .pointer none)] (by kernel_rfl) ?_
        refine EL.done (by kernel_rfl) ?_
        refine EQ.code ?_
        refine EW.seq (x := Cd42.r.r.l) (y := Cd42.r.r.r) (by kernel_rfl) ?_
        refine EW.seq (x := Cd42.r.r.l.l) (y := Cd42.r.r.l.r) (by kernel_rfl) ?_
        refine EW.region (id := 2) (ops := Cd42.r.r.l.l.ops) (by kernel_rfl) ?_
        refine EL.quick 9 [2, 7, 19] [(2, .func (.func 43) #[.agg #[.int .i64 2, .int .i32 0, .int .i64 a7101]] #[]), (7, .pointer none), (19, .bool (true))] (by kernel_rfl) ?_
        refine EL.done (by kernel_rfl) ?_
        refine EQ.code ?_
        refine EW.condT (o := (.tmp 19)) (x := Cd42.r.r.l.r.l) (y := Cd42.r.r.l.r.r) (by kernel_rfl) (by kernel_rfl) ?_
        refine EW.seq (x := Cd42.r.r.l.r.l.l) (y := Cd42.r.r.l.r.l.r) (by kernel_rfl) ?_
        refine EW.region (id := 3) (ops := Cd42.r.r.l.r.l.l.ops) (by kernel_rfl) ?_
        refine EL.quick 1 [6] [(6, .bool (false))] (by kernel_rfl) ?_
        refine EL.done (by kernel_rfl) ?_
        refine EQ.code ?_
        refine EW.ret (by kernel_rfl) ?_
        refine EQ.ret ?_
        exact EQ.leave (.bool (false)) (by kernel_rfl) ⟨_, rfl, l7092, false, A7093, C7094, rfl, (hS.re [2, 2, 2] [] rfl (sub_self)), H⟩
      · rw [if_neg h8751] at H
        refine EW.skip (by kernel_rfl) ?_
        refine EQ.code ?_
        refine EW.seq (x := Cd64.r.r.r.l) (y := Cd64.r.r.r.r) (by kernel_rfl) ?_
        refine EW.region (id := 4) (ops := Cd64.r.r.r.l.ops) (by kernel_rfl) ?_
        refine EL.quick 3 [5, 6, 36] [(5, .int .i64 t8698), (6, .int .i64 t8700), (36, .pointer (some ⟨g7091, 0, none⟩))] (by kernel_rfl) ?_
        refine EL.of (EO.Y (YO.loadBox hS 0 rfl 89 0 1 (.slice A7093 l7092.length C7094) 37 (by kernel_rfl) (by kernel_rfl) (by kernel_rfl) (by kernel_rfl)) ?_)
        refine EL.quick 1 [6, 37, 38] [(6, .int .i64 t8700), (37, .slice A7093 l7092.length C7094), (38, .int .i64 t8698)] (by kernel_rfl) ?_
        obtain ⟨h8752, H⟩ := ite_in H
        obtain ⟨h8753, H⟩ := ite_in H
        obtain ⟨ad8754, rfl⟩ := St.deep_some hS 1 rfl h8752 h8753
        refine EL.of (EO.Y (YO.idx 89 1 ad8754 l7092.length C7094 .i64 t8698 39 (by kernel_rfl) (by kernel_rfl) (by kernel_rfl) (by kernel_rfl) h8752 h8753) ?_)
        refine EL.of (EO.openEl hS 1 ad8754 rfl t8698 h8752 h8753 (fun A8755 C8756 => Ass.box 91 g7091 [.slice (some ad8754) l7092.length C7094, .slice A7097 l7096.length C7098] :: Ass.holed 94 96 kS96 (some ad8754) C7094 l7092 t8698.toNat (A8755, (l7092.getD t8698.toNat []).length, C8756) :: Ass.own 3 (Kd.int .i64) A7097 C7098 l7096 :: os) 94 40 (by kernel_rfl) (by kernel_rfl) (by kernel_rfl) (by kernel_rfl) (fun _ _ => rfl) ?_)
        intro A8755 C8756 hS
        refine EL.quick 1 [40, 41] [(40, .slice A8755 (l7092.getD t8698.toNat []).length C8756), (41, .int .i64 t8700)] (by kernel_rfl) ?_
        obtain ⟨h8757, H⟩ := ite_in H
        obtain ⟨h8758, H⟩ := ite_in H
        obtain ⟨ad8759, rfl⟩ := St.rd_some hS (Rd.own 0 96 rfl) h8757 h8758
        refine EL.of (EO.Y (YO.idx 94 4 ad8759 (l7092.getD t8698.toNat []).length C8756 .i64 t8700 42 (by kernel_rfl) (by kernel_rfl) (by kernel_rfl) (by kernel_rfl) h8757 h8758) ?_)
        refine EL.quick 1 [4] [(4, .pointer (some ((ad8759.add (t8700.toNat * 4)).add 0)))] (by kernel_rfl) ?_
        refine EL.done (by kernel_rfl) ?_
        refine EQ.code ?_
        refine EW.ret (by kernel_rfl) ?_
        refine EQ.leave (.pointer (some ((ad8759.add (t8700.toNat * 4)).add 0))) (by kernel_rfl) ⟨_, rfl, ?_⟩
        refine EL.quick 1 [2, 7] [(2, .func (.func 43) #[.agg #[.int .i64 2, .int .i32 0, .int .i64 a7101]] #[]), (7, .pointer (some ((ad8759.add (t8700.toNat * 4)).add 0)))] (by kernel_rfl) ?_
        refine EL.done (by kernel_rfl) ?_
        refine EQ.code ?_
        refine EW.seq (x := Cd42.r.r.l) (y := Cd42.r.r.r) (by kernel_rfl) ?_
        refine EW.seq (x := Cd42.r.r.l.l) (y := Cd42.r.r.l.r) (by kernel_rfl) ?_
        refine EW.region (id := 2) (ops := Cd42.r.r.l.l.ops) (by kernel_rfl) ?_
        refine EL.quick 6 [2, 7, 13, 16] [(2, .func (.func 43) #[.agg #[.int .i64 2, .int .i32 0, .int .i64 a7101]] #[]), (7, .pointer (some ((ad8759.add (t8700.toNat * 4)).add 0))), (13, .bool (false)), (16, .pointer (some ((ad8759.add (t8700.toNat * 4)).add 1)))] (by kernel_rfl) ?_
        refine EL.of (EO.Y (YO.loadEl hS kS96 ad8759 C8756 (l7092.getD t8698.toNat []) (Rd.own 0 96 rfl) zS96 encS96 encS96_of t8700 h8757 h8758 3 4 1 1 rfl (.int .i64 (((l7092.getD t8698.toNat []).getD t8700.toNat zS96).f1)) 17 (by kernel_rfl) (by kernel_rfl) (by kernel_rfl) (by kernel_rfl)) ?_)
        refine EL.quick 2 [2, 7, 19] [(2, .func (.func 43) #[.agg #[.int .i64 2, .int .i32 0, .int .i64 a7101]] #[]), (7, .pointer (some ((ad8759.add (t8700.toNat * 4)).add 0))), (19, .bool (!(decide ((((l7092.getD t8698.toNat []).getD t8700.toNat zS96).f1) = 0))))] (by kernel_rfl) ?_
        refine EL.done (by kernel_rfl) ?_
        refine EQ.code ?_
        refine EW.condQ (b := !(decide ((((l7092.getD t8698.toNat []).getD t8700.toNat zS96).f1) = 0))) (o := (.tmp 19)) (x := Cd42.r.r.l.r.l) (y := Cd42.r.r.l.r.r) ((((l7092.getD t8698.toNat []).getD t8700.toNat zS96).f1) = 0) (false) (by kernel_rfl) (by kernel_rfl) ⟨fun h => (by rw [decide_eq_true h] <;> rfl), fun h => (by rw [decide_eq_false h] <;> rfl)⟩ (fun h8761 => ?_) (fun h8761 => ?_)
        · rw [if_pos h8761] at H
          refine EW.skip (by kernel_rfl) ?_
          refine EQ.code ?_
          refine EW.seq (x := Cd42.r.r.r.l) (y := Cd42.r.r.r.r) (by kernel_rfl) ?_
          refine EW.region (id := 4) (ops := Cd42.r.r.r.l.ops) (by kernel_rfl) ?_
          refine EL.quick 2 [20, 21] [(20, .func (.func 43) #[.agg #[.int .i64 2, .int .i32 0, .int .i64 a7101]] #[]), (21, .pointer (some ((ad8759.add (t8700.toNat * 4)).add 0)))] (by kernel_rfl) ?_
          refine EL.inline 43 [.agg #[.int .i64 2, .int .i32 0, .int .i64 a7101], .pointer (some ((ad8759.add (t8700.toNat * 4)).add 0))] 22 (by kernel_rfl) (by kernel_rfl) (by kernel_rfl) ?_
          refine calls_of_EW (args := [.agg #[.int .i64 2, .int .i32 0, .int .i64 a7101], .pointer (some ((ad8759.add (t8700.toNat * 4)).add 0))]) (c := Cd43) 19 Try.func43 (by kernel_rfl) (by kernel_rfl) (by kernel_rfl) ?_
          refine EW.seq (x := Cd43.l) (y := Cd43.r) (by kernel_rfl) ?_
          refine EW.region (id := 0) (ops := Cd43.l.ops) (by kernel_rfl) ?_
          refine EL.of (EO.box hS 100 (.agg #[.int .i64 2, .int .i32 0, .int .i64 a7101]) [.int .i64 2, .int .i32 0, .int .i64 a7101] 2 (by kernel_rfl) (by kernel_rfl) (by kernel_rfl) (by first | rfl | kernel_rfl) ?_)
          intro g8768 w hS
          refine EL.done (by kernel_rfl) ?_
          refine EQ.code ?_
          obtain ⟨l8769, hl8769, H⟩ := lt_out H
          obtain ⟨l8770, hl8770, H⟩ := lt_out H
          obtain ⟨l8771, hl8771, H⟩ := lt_out H
          have hS := hS.drew
          refine EW.draw (B := B) (id := 1) (ops := Cd43.r.ops) [Ass.box 100 g8768 [.int .i64 2, .int .i32 0, .int .i64 a7101], Ass.box 91 g7091 [.slice (some ad8754) l7092.length C7094, .slice A7097 l7096.length C7098], Ass.holed 94 96 kS96 (some ad8754) C7094 l7092 t8698.toNat ((some ad8759), (l7092.getD t8698.toNat []).length, C8756), Ass.own 3 (Kd.int .i64) A7097 C7098 l7096] [] (by kernel_rfl) (by kernel_rfl) ?_
          have hN : Region.noSelect Cd43.r.ops = true := (by kernel_rfl)
          have hF : freeAll Cd43.r.ops = true := (by kernel_rfl)
          have hC : Core B [Ass.box 100 g8768 [.int .i64 2, .int .i32 0, .int .i64 a7101], Ass.box 91 g7091 [.slice (some ad8754) l7092.length C7094, .slice A7097 l7096.length C7098], Ass.holed 94 96 kS96 (some ad8754) C7094 l7092 t8698.toNat ((some ad8759), (l7092.getD t8698.toNat []).length, C8756), Ass.own 3 (Kd.int .i64) A7097 C7098 l7096] [] _ := ⟨_, _, hS.re [4, 4, 4, 3] [] rfl sub_self⟩
          refine ED.quick hN hF hC [0, 1, 2, 3, 5, 7] [4, 5, 6, 7, 9, 11] 12 [(4, .pointer (some ((ad8759.add (t8700.toNat * 4)).add 0))), (5, .pointer (some ((ad8759.add (t8700.toNat * 4)).add 0))), (6, .pointer (some ((ad8759.add (t8700.toNat * 4)).add 0))), (7, .pointer (some ⟨g8768, 0, none⟩)), (9, .pointer (some ⟨g8768, 1, none⟩)), (11, .pointer (some ⟨g8768, 2, none⟩))] #[true, true, true, true, false, true, false, true, false, false, false, false, false, false, false, false, false, false] (by kernel_rfl) (by kernel_rfl) ?_
          refine ED.Y hN hF hC 4 11 #[true, true, true, true, true, true, false, true, false, false, false, false, false, false, false, false, false, false] (by kernel_rfl) (by kernel_rfl) rfl (fun _ _ _ hS => YO.loadBox hS 0 rfl 3 0 1 (.int .i64 2) 8 (by kernel_rfl) (by kernel_rfl) (by kernel_rfl) (by kernel_rfl)) ?_
          refine ED.quick hN hF hC [9, 10] [5, 6, 8, 9, 11, 14] 9 [(5, .pointer (some ((ad8759.add (t8700.toNat * 4)).add 0))), (6, .pointer (some ((ad8759.add (t8700.toNat * 4)).add 0))), (8, .int .i64 2), (9, .pointer (some ⟨g8768, 1, none⟩)), (11, .pointer (some ⟨g8768, 2, none⟩)), (14, .pointer (some ((ad8759.add (t8700.toNat * 4)).add 1)))] #[true, true, true, true, true, true, false, true, false, true, true, false, false, false, false, false, false, false] (by kernel_rfl) (by kernel_rfl) ?_
          refine ED.Y hN hF hC 6 8 #[true, true, true, true, true, true, true, true, false, true, true, false, false, false, false, false, false, false] (by kernel_rfl) (by kernel_rfl) rfl (fun _ _ _ hS => YO.loadBox hS 0 rfl 21 1 1 (.int .i32 0) 10 (by kernel_rfl) (by kernel_rfl) (by kernel_rfl) (by kernel_rfl)) ?_
          refine ED.Y hN hF hC 8 7 #[true, true, true, true, true, true, true, true, true, true, true, false, false, false, false, false, false, false] (by kernel_rfl) (by kernel_rfl) rfl (fun _ _ _ hS => YO.loadBox hS 0 rfl 57 2 1 (.int .i64 a7101) 12 (by kernel_rfl) (by kernel_rfl) (by kernel_rfl) (by kernel_rfl)) ?_
          refine ED.one 11 6 #[true, true, true, true, true, true, true, true, true, true, true, true, false, false, false, false, false, false] (by kernel_rfl) (by kernel_rfl) (by kernel_rfl) (EO.storeEl hS 1 kS96 96 ad8759 C8756 (l7092.getD t8698.toNat []) rfl t8700 h8757 h8758 zS96 3 4 1 rfl (.int .i64 2) (⟨((l7092.getD t8698.toNat []).getD t8700.toNat zS96).f0, 2, ((l7092.getD t8698.toNat []).getD t8700.toNat zS96).f2, ((l7092.getD t8698.toNat []).getD t8700.toNat zS96).f3⟩ : S96) l8769 hl8769 (Ass.box 100 g8768 [.int .i64 2, .int .i32 0, .int .i64 a7101] :: Ass.own 96 kS96 (some ad8759) C8756 l8769 :: Ass.box 91 g7091 [.slice (some ad8754) l7092.length C7094, .slice A7097 l7096.length C7098] :: Ass.holed 94 96 kS96 (some ad8754) C7094 l7092 t8698.toNat ((some ad8759), (l7092.getD t8698.toNat []).length, C8756) :: Ass.own 3 (Kd.int .i64) A7097 C7098 l7096 :: os) (by kernel_rfl) (by kernel_rfl) (by kernel_rfl) (by kernel_rfl) (by kernel_rfl) (by kernel_rfl) (fun w G vs hr h => (by have e := encS96_of _ _ _ _ h; subst e; exact ⟨[.int .i64 (((l7092.getD t8698.toNat []).getD t8700.toNat zS96).f0)], [.int .i64 2, .int .i32 (((l7092.getD t8698.toNat []).getD t8700.toNat zS96).f2), .int .i64 (((l7092.getD t8698.toNat []).getD t8700.toNat zS96).f3)], rfl, rfl, ⟨[.int .i64 2], [.int .i32 (((l7092.getD t8698.toNat []).getD t8700.toNat zS96).f2), .int .i64 (((l7092.getD t8698.toNat []).getD t8700.toNat zS96).f3)], rfl, rfl, ⟨[.int .i32 (((l7092.getD t8698.toNat []).getD t8700.toNat zS96).f2)], [.int .i64 (((l7092.getD t8698.toNat []).getD t8700.toNat zS96).f3)], rfl, rfl, ⟨[.int .i64 (((l7092.getD t8698.toNat []).getD t8700.toNat zS96).f3)], [], rfl, rfl, rfl⟩⟩⟩⟩)) rfl ?_)
          intro w hS
          have hC : Core B [Ass.box 100 g8768 [.int .i64 2, .int .i32 0, .int .i64 a7101], Ass.box 91 g7091 [.slice (some ad8754) l7092.length C7094, .slice A7097 l7096.length C7098], Ass.holed 94 96 kS96 (some ad8754) C7094 l7092 t8698.toNat ((some ad8759), (l7092.getD t8698.toNat []).length, C8756), Ass.own 3 (Kd.int .i64) A7097 C7098 l7096] [] _ := ⟨_, _, hS.re [4, 4, 4, 3] [] rfl sub_self⟩
          refine ⟨hC, ?_⟩
          refine ED.quick hN hF hC [12, 13] [6, 10, 12, 16] 4 [(6, .pointer (some ((ad8759.add (t8700.toNat * 4)).add 0))), (10, .int .i32 0), (12, .int .i64 a7101), (16, .pointer (some ((ad8759.add (t8700.toNat * 4)).add 2)))] #[true, true, true, true, true, true, true, true, true, true, true, true, true, true, false, false, false, false] (by kernel_rfl) (by kernel_rfl) ?_
          refine ED.one 14 3 #[true, true, true, true, true, true, true, true, true, true, true, true, true, true, true, false, false, false] (by kernel_rfl) (by kernel_rfl) (by kernel_rfl) (EO.storeEl hS 1 kS96 96 ad8759 C8756 l8769 rfl t8700 h8757 (lt_set h8758 hl8769) zS96 21 4 2 rfl (.int .i32 0) (⟨(l8769.getD t8700.toNat zS96).f0, (l8769.getD t8700.toNat zS96).f1, 0, (l8769.getD t8700.toNat zS96).f3⟩ : S96) l8770 hl8770 (Ass.box 100 g8768 [.int .i64 2, .int .i32 0, .int .i64 a7101] :: Ass.own 96 kS96 (some ad8759) C8756 l8770 :: Ass.box 91 g7091 [.slice (some ad8754) l7092.length C7094, .slice A7097 l7096.length C7098] :: Ass.holed 94 96 kS96 (some ad8754) C7094 l7092 t8698.toNat ((some ad8759), (l7092.getD t8698.toNat []).length, C8756) :: Ass.own 3 (Kd.int .i64) A7097 C7098 l7096 :: os) (by kernel_rfl) (by kernel_rfl) (by kernel_rfl) (by kernel_rfl) (by kernel_rfl) (by kernel_rfl) (fun w G vs hr h => (by have e := encS96_of _ _ _ _ h; subst e; exact ⟨[.int .i64 ((l8769.getD t8700.toNat zS96).f0)], [.int .i64 ((l8769.getD t8700.toNat zS96).f1), .int .i32 0, .int .i64 ((l8769.getD t8700.toNat zS96).f3)], rfl, rfl, ⟨[.int .i64 ((l8769.getD t8700.toNat zS96).f1)], [.int .i32 0, .int .i64 ((l8769.getD t8700.toNat zS96).f3)], rfl, rfl, ⟨[.int .i32 0], [.int .i64 ((l8769.getD t8700.toNat zS96).f3)], rfl, rfl, ⟨[.int .i64 ((l8769.getD t8700.toNat zS96).f3)], [], rfl, rfl, rfl⟩⟩⟩⟩)) rfl ?_)
          intro w hS
          have hC : Core B [Ass.box 100 g8768 [.int .i64 2, .int .i32 0, .int .i64 a7101], Ass.box 91 g7091 [.slice (some ad8754) l7092.length C7094, .slice A7097 l7096.length C7098], Ass.holed 94 96 kS96 (some ad8754) C7094 l7092 t8698.toNat ((some ad8759), (l7092.getD t8698.toNat []).length, C8756), Ass.own 3 (Kd.int .i64) A7097 C7098 l7096] [] _ := ⟨_, _, hS.re [4, 4, 4, 3] [] rfl sub_self⟩
          refine ⟨hC, ?_⟩
          refine ED.quick hN hF hC [15, 16] [12, 18] 1 [(12, .int .i64 a7101), (18, .pointer (some ((ad8759.add (t8700.toNat * 4)).add 3)))] #[true, true, true, true, true, true, true, true, true, true, true, true, true, true, true, true, true, false] (by kernel_rfl) (by kernel_rfl) ?_
          refine ED.one 17 0 #[true, true, true, true, true, true, true, true, true, true, true, true, true, true, true, true, true, true] (by kernel_rfl) (by kernel_rfl) (by kernel_rfl) (EO.storeEl hS 1 kS96 96 ad8759 C8756 l8770 rfl t8700 h8757 (lt_set (lt_set h8758 hl8769) hl8770) zS96 57 4 3 rfl (.int .i64 a7101) (⟨(l8770.getD t8700.toNat zS96).f0, (l8770.getD t8700.toNat zS96).f1, (l8770.getD t8700.toNat zS96).f2, a7101⟩ : S96) l8771 hl8771 (Ass.box 100 g8768 [.int .i64 2, .int .i32 0, .int .i64 a7101] :: Ass.own 96 kS96 (some ad8759) C8756 l8771 :: Ass.box 91 g7091 [.slice (some ad8754) l7092.length C7094, .slice A7097 l7096.length C7098] :: Ass.holed 94 96 kS96 (some ad8754) C7094 l7092 t8698.toNat ((some ad8759), (l7092.getD t8698.toNat []).length, C8756) :: Ass.own 3 (Kd.int .i64) A7097 C7098 l7096 :: os) (by kernel_rfl) (by kernel_rfl) (by kernel_rfl) (by kernel_rfl) (by kernel_rfl) (by kernel_rfl) (fun w G vs hr h => (by have e := encS96_of _ _ _ _ h; subst e; exact ⟨[.int .i64 ((l8770.getD t8700.toNat zS96).f0)], [.int .i64 ((l8770.getD t8700.toNat zS96).f1), .int .i32 ((l8770.getD t8700.toNat zS96).f2), .int .i64 a7101], rfl, rfl, ⟨[.int .i64 ((l8770.getD t8700.toNat zS96).f1)], [.int .i32 ((l8770.getD t8700.toNat zS96).f2), .int .i64 a7101], rfl, rfl, ⟨[.int .i32 ((l8770.getD t8700.toNat zS96).f2)], [.int .i64 a7101], rfl, rfl, ⟨[.int .i64 a7101], [], rfl, rfl, rfl⟩⟩⟩⟩)) rfl ?_)
          intro w hS
          have hC : Core B [Ass.box 100 g8768 [.int .i64 2, .int .i32 0, .int .i64 a7101], Ass.box 91 g7091 [.slice (some ad8754) l7092.length C7094, .slice A7097 l7096.length C7098], Ass.holed 94 96 kS96 (some ad8754) C7094 l7092 t8698.toNat ((some ad8759), (l7092.getD t8698.toNat []).length, C8756), Ass.own 3 (Kd.int .i64) A7097 C7098 l7096] [] _ := ⟨_, _, hS.re [4, 4, 4, 3] [] rfl sub_self⟩
          refine ⟨hC, ?_⟩
          refine ED.done (by kernel_rfl) ?_
          refine EQ.leaveN (.tuple #[]) (by kernel_rfl) ⟨_, rfl, ?_⟩
          refine EL.done (by kernel_rfl) ?_
          refine EQ.code ?_
          refine EW.seq (x := Cd42.r.r.r.r.l) (y := Cd42.r.r.r.r.r) (by kernel_rfl) ?_
          refine EW.region (id := 5) (ops := Cd42.r.r.r.r.l.ops) (by kernel_rfl) ?_
          refine EL.quick 1 [6] [(6, .bool (true))] (by kernel_rfl) ?_
          refine EL.done (by kernel_rfl) ?_
          refine EQ.code ?_
          refine EW.ret (by kernel_rfl) ?_
          have hS := St.as (os' := Ass.box 100 g8768 [.int .i64 2, .int .i32 0, .int .i64 a7101] :: Ass.box 91 g7091 [.slice (some ad8754) l7092.length C7094, .slice A7097 l7096.length C7098] :: Ass.deep 94 96 kS96 (some ad8754) C7094 (l7092.set t8698.toNat l8771) :: Ass.own 3 (Kd.int .i64) A7097 C7098 l7096 :: os) (St.close hS 1 2 rfl rfl (len_set (len_set (len_set rfl hl8769) hl8770) hl8771) (l7092.set t8698.toNat l8771) rfl) rfl
          have hS := St.as hS (os' := Ass.box 100 g8768 [.int .i64 2, .int .i32 0, .int .i64 a7101] :: Ass.box 91 g7091 [.slice (some ad8754) (l7092.set t8698.toNat l8771).length C7094, .slice A7097 l7096.length C7098] :: Ass.deep 94 96 kS96 (some ad8754) C7094 (l7092.set t8698.toNat l8771) :: Ass.own 3 (Kd.int .i64) A7097 C7098 l7096 :: os) (by simp only [List.length_set])
          exact EQ.leave (.bool (true)) (by kernel_rfl) ⟨_, rfl, (l7092.set t8698.toNat l8771), true, (some ad8754), C7094, rfl, (hS.re [3, 3, 3] [3] rfl (sub_self)), H⟩
        · rw [if_neg h8761] at H
          refine EW.seq (x := Cd42.r.r.l.r.l.l) (y := Cd42.r.r.l.r.l.r) (by kernel_rfl) ?_
          refine EW.region (id := 3) (ops := Cd42.r.r.l.r.l.l.ops) (by kernel_rfl) ?_
          refine EL.quick 1 [6] [(6, .bool (false))] (by kernel_rfl) ?_
          refine EL.done (by kernel_rfl) ?_
          refine EQ.code ?_
          refine EW.ret (by kernel_rfl) ?_
          refine EQ.ret ?_
          have hS := St.as (os' := Ass.box 91 g7091 [.slice (some ad8754) l7092.length C7094, .slice A7097 l7096.length C7098] :: Ass.deep 94 96 kS96 (some ad8754) C7094 l7092 :: Ass.own 3 (Kd.int .i64) A7097 C7098 l7096 :: os) (St.close hS 0 1 rfl rfl rfl l7092 (set_getD _ _)) rfl
          exact EQ.leave (.bool (false)) (by kernel_rfl) ⟨_, rfl, l7092, false, (some ad8754), C7094, rfl, (hS.re [2, 2, 2] [] rfl (sub_self)), H⟩
  · rintro v w ⟨x8491, x8494, A8492, C8493, rfl, hS, H⟩
    rw [hj8495] at H
    (try dsimp only at H)
    refine EL.quick 1 [6] [(6, .bool (x8494))] (by kernel_rfl) ?_
    refine EL.done (by kernel_rfl) ?_
    refine EQ.code ?_
    refine EW.ret (by kernel_rfl) ?_
    simp only [Option.some.injEq, Prod.mk.injEq] at H
    obtain ⟨rfl, rfl⟩ := H
    exact EQ.leave (.bool (x8494)) (by kernel_rfl) ⟨_, rfl, A8492, C8493, rfl, (hS.re [2, 2, 2] [] rfl (sub_self))⟩

/-! ### (*confidant/confidantref12.Futures).Break: function 24 -/
def confidantref12_Futures_Break.f (K : Nat) (l8784 : List Int) (l8788 : List (List S96)) (a8792 : Int) (a8793 : Int) : Option (List (List S96) × Bool) := b2 (confidantref12_Futures_end.f K l8784 l8788 a8792 2 0 a8793) fun (t8803 : List (List S96)) (t8804 : Bool) => (some (t8803, t8804))
set_option maxRecDepth 100000 in
theorem confidantref12_Futures_Break.calls {K : Nat} {l8784 : List Int} {l8788 : List (List S96)} {a8792 : Int} {a8793 : Int} {g8783 : Nat} {A8785 : Option Addr} {C8786 : Nat} {A8789 : Option Addr} {C8790 : Nat} {x8799 : List (List S96)} {x8802 : Bool} {B w : World} {os : List Ass} {rs : List Ro} (H : confidantref12_Futures_Break.f K l8784 l8788 a8792 a8793 = some (x8799, x8802)) (hS : St B w (Ass.box 105 g8783 [.slice A8785 l8784.length C8786, .slice A8789 l8788.length C8790] :: Ass.own 3 (Kd.int .i64) A8785 C8786 l8784 :: Ass.deep 94 96 kS96 A8789 C8790 l8788 :: os) (rs)) :
    Calls Try.prog 24 [.pointer (some ⟨g8783, 0, none⟩), .int .i32 a8792, .int .i64 a8793].toArray w (fun en w' => ∃ v, en = .returned v ∧ ∃ A8800 : Option Addr, ∃ C8801 : Nat, v = .bool (x8802) ∧ St B w' (Ass.box 105 g8783 [.slice A8785 l8784.length C8786, .slice A8800 x8799.length C8801] :: Ass.own 3 (Kd.int .i64) A8785 C8786 l8784 :: Ass.deep 94 96 kS96 A8800 C8801 x8799 :: os) (rs)) := by
  unfold confidantref12_Futures_Break.f at H
  refine calls_of_EW (args := [.pointer (some ⟨g8783, 0, none⟩), .int .i32 a8792, .int .i64 a8793]) (c := Cd24) 11 Try.func24 (by kernel_rfl) (by kernel_rfl) (by kernel_rfl) ?_
  refine EW.seq (x := Cd24.l) (y := Cd24.r) (by kernel_rfl) ?_
  refine EW.region (id := 0) (ops := Cd24.l.ops) (by kernel_rfl) ?_
  refine EL.quick 1 [0, 1, 2] [(0, .pointer (some ⟨g8783, 0, none⟩)), (1, .int .i32 a8792), (2, .int .i64 a8793)] (by kernel_rfl) ?_
  refine EL.done (by kernel_rfl) ?_
  refine EQ.code ?_
  refine EW.seq (x := Cd24.r.l) (y := Cd24.r.r) (by kernel_rfl) ?_
  refine EW.region (id := 1) (ops := Cd24.r.l.ops) (by kernel_rfl) ?_
  refine EL.quick 3 [7, 8, 9] [(7, .pointer (some ⟨g8783, 0, none⟩)), (8, .int .i32 a8792), (9, .int .i64 a8793)] (by kernel_rfl) ?_
  obtain ⟨t8803, t8804, hc8807, H⟩ := b2_out H
  refine EL.of (EO.callD 49 [.pointer (some ⟨g8783, 0, none⟩), .int .i32 a8792, .int .i64 2, .int .i32 0, .int .i64 a8793] _ 10 (by kernel_rfl) (by kernel_rfl) (by kernel_rfl) (confidantref12_Futures_end.calls hc8807 hS) ?_)
  rintro v w ⟨A8805, C8806, rfl, hS⟩
  refine EL.quick 1 [6] [(6, .bool (t8804))] (by kernel_rfl) ?_
  refine EL.done (by kernel_rfl) ?_
  refine EQ.code ?_
  refine EW.ret (by kernel_rfl) ?_
  simp only [Option.some.injEq, Prod.mk.injEq] at H
  obtain ⟨rfl, rfl⟩ := H
  exact EQ.leave (.bool (t8804)) (by kernel_rfl) ⟨_, rfl, A8805, C8806, rfl, (hS.re [2, 2, 2] [] rfl (sub_self))⟩

end Go.Proofs.Ytipaaapbapijhaa.G
