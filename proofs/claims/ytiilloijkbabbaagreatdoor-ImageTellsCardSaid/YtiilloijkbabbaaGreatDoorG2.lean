import Derived.Test.YtiilloijkbabbaaGreatDoorProg
import Derived.Test.YtiilloijkbabbaaGreatDoorFwShort
import Derived.Test.YtiilloijkbabbaaGreatDoorFwOpen
import Derived.Test.YtiilloijkbabbaaGreatDoorG0
import Derived.Test.YtiilloijkbabbaaGreatDoorG1
namespace Go.Proofs.YtiilloijkbabbaaGreatDoor.G
open Go Go.Fw Go.RowKit Go.Proofs
set_option linter.unusedVariables false
set_option linter.unusedSimpArgs false

/-! ### confidant/confidantseat.Code: function 8 -/
def confidantseat_Code.l1 (K : Nat) (a3 : Int) (a0 : List Int) (a5 : Int) (a6 : Int) (a7 : Bool) (f2 : (List S59) → Option (List (List S59))) : Nat → (List S59) → Int → Option (List (List S59))
 | 0, _, _ => none
 | n + 1, b4, b0 => lt (fun (i3 : Bool) => (if i3 = true then (lt (fun (n2 : List S59) (e5 : List S59) => (confidantseat_Code.l1 K a3 a0 a5 a6 a7 f2 n e5 (IntKind.i64.wrap (b0 + (IntKind.i64.wrap (3 * a3)))))) fun m9 => (if 0 ≤ b0 then (if b0 < (a0.length : Int) then (if 0 ≤ (IntKind.i64.wrap (b0 + 1)) then (if (IntKind.i64.wrap (b0 + 1)) < (a0.length : Int) then (if 0 ≤ (IntKind.i64.wrap (b0 + 2)) then (if (IntKind.i64.wrap (b0 + 2)) < (a0.length : Int) then (b1 (confidantseat_piece.f K (a0.getD b0.toNat 0) (a0.getD (IntKind.i64.wrap (b0 + 1)).toNat 0) (a0.getD (IntKind.i64.wrap (b0 + 2)).toNat 0) a5 a3 a6 a7) fun (b6 : List S59) => (lt (fun (e6 : List S59) => (if (e6.length + b6.length) * 16 ≤ 140737488355328 then (lt (e6 ++ b6) fun c4 => (if (Int.tmod (a0.getD b0.toNat 0) 16) = 14 then (b2 (confidantseat_in.f K 12 1) fun (e9 : Int) (e2 : Int) => (b2 (confidantseat_in.f K 1 1) fun (e3 : Int) (d8 : Int) => (b2 (confidantseat_in.f K 5 0) fun (d9 : Int) (d6 : Int) => (b2 (confidantseat_in.f K 13 1) fun (d7 : Int) (d1 : Int) => (b2 (confidantseat_in.f K 12 1) fun (d2 : Int) (c8 : Int) => (b2 (confidantseat_in.f K 11 (IntKind.i64.wrap ((c4.length : Int) + 7))) fun (d3 : Int) (c9 : Int) => (b2 (confidantseat_in.f K 10 (mx (IntKind.i64.wrap ((IntKind.i64.wrap ((c4.length : Int) - (b6.length : Int))) + 2)) 0)) fun (d4 : Int) (d0 : Int) => (lt ([(⟨e9, e2⟩ : S59), (⟨e3, d8⟩ : S59), (⟨d9, d6⟩ : S59), (⟨d7, d1⟩ : S59), (⟨d2, c8⟩ : S59), (⟨d3, c9⟩ : S59), (⟨d4, d0⟩ : S59)] : List S59) fun g8 => (if (c4.length + g8.length) * 16 ≤ 140737488355328 then (lt (c4 ++ g8) fun f4 => (m9 b6 f4)) else none))))))))) else (m9 b6 c4))) else none)) fun n0 => (if (Int.tmod (a0.getD (IntKind.i64.wrap (b0 + 1)).toNat 0) 5) = 4 then (b2 (confidantseat_in.f K 12 (IntKind.i64.wrap (Int.tmod (a0.getD (IntKind.i64.wrap (b0 + 2)).toNat 0) 4))) fun (f8 : Int) (e7 : Int) => (b2 (confidantseat_in.f K 11 (IntKind.i64.wrap ((IntKind.i64.wrap ((b4.length : Int) + 2)) + (b6.length : Int)))) fun (f9 : Int) (e8 : Int) => (lt ([(⟨f8, e7⟩ : S59), (⟨f9, e8⟩ : S59)] : List S59) fun g7 => (if (b4.length + g7.length) * 16 ≤ 140737488355328 then (lt (b4 ++ g7) fun f3 => (n0 f3)) else none)))) else (n0 b4)))) else none) else none) else none) else none) else none) else none)) else (f2 b4))) fun m8 => (if (IntKind.i64.wrap (b0 + 2)) < (a0.length : Int) then (m8 (decide ((b4.length : Int) < 30))) else (m8 false))
def confidantseat_Code.l0 (K : Nat) (a3 : Int) (a0 : List Int) (a5 : Int) (a6 : Int) (a7 : Bool) : Nat → (List (List S59)) → Int → Option (List (List S59))
 | 0, _, _ => none
 | n + 1, a4, a1 => if a1 < a3 then (lt (fun (e4 : List (List S59)) => (confidantseat_Code.l0 K a3 a0 a5 a6 a7 n e4 (IntKind.i64.wrap (a1 + 1)))) fun o2 => (lt (fun (b7 : List S59) => (lt (fun (c5 : List S59) => (if (a4.length + ([c5] : List (List S59)).length) * 24 ≤ 140737488355328 then (lt (a4 ++ ([c5] : List (List S59))) fun f7 => (o2 f7)) else none)) fun n1 => (lt (fun (i4 : Bool) => (if i4 = true then (if 0 ≤ a1 then (if a1 < (a0.length : Int) then (b2 (confidantseat_in.f K 26 (IntKind.i64.wrap (IntKind.u8.wrap (Int.tdiv (a0.getD a1.toNat 0) 8)))) fun (i1 : Int) (g0 : Int) => (lt ([(⟨i1, g0⟩ : S59)] : List S59) fun g9 => (if (b7.length + g9.length) * 16 ≤ 140737488355328 then (lt (b7 ++ g9) fun f5 => (n1 f5)) else none))) else none) else none) else (b2 (confidantseat_in.f K 12 (Int.tmod a1 4)) fun (i2 : Int) (g1 : Int) => (b2 (confidantseat_in.f K 25 0) fun (g2 : Int) (f0 : Int) => (lt ([(⟨i2, g1⟩ : S59), (⟨g2, f0⟩ : S59)] : List S59) fun i0 => (if (b7.length + i0.length) * 16 ≤ 140737488355328 then (lt (b7 ++ i0) fun f6 => (n1 f6)) else none)))))) fun m0 => (if (Int.tmod a1 3) = 2 then (if (a0.length : Int) > a1 then (if 0 ≤ a1 then (if a1 < (a0.length : Int) then (m0 (decide ((Int.tmod (a0.getD a1.toNat 0) 8) = 0))) else none) else none) else (m0 false)) else (m0 false))))) fun f2 => (confidantseat_Code.l1 K a3 a0 a5 a6 a7 f2 K ([] : List S59) (IntKind.i64.wrap (3 * a1))))) else (some a4)
def confidantseat_Code.f (K : Nat) (a0 : List Int) (a5 : Int) (a3 : Int) (a6 : Int) (a7 : Bool) : Option (List (List S59)) := confidantseat_Code.l0 K a3 a0 a5 a6 a7 K ([] : List (List S59)) 0
set_option maxRecDepth 100000 in
theorem confidantseat_Code.calls {K : Nat} {a0 : List Int} {a5 : Int} {a3 : Int} {a6 : Int} {a7 : Bool} {b3 : Option Addr} {a2 : Nat} {d5 : List (List S59)} {B w : World} {os : List Ass} {rs : List Ro} (H : confidantseat_Code.f K a0 a5 a3 a6 a7 = some d5) (hS : St B w (os) (Ro.sl (Kd.int .u8) b3 a2 a0 :: rs)) :
  Calls Tryz.prog 8 [sv b3 a2 a0, ia a5, ia a3, ia a6, .bool (a7)].toArray w (fun en w' => ∃ v, en = .returned v ∧ ∃ o3 : Option Addr, ∃ o5 : Nat, v = sv o3 o5 d5 ∧ St B w' (Ass.deep 56 59 kS59 o3 o5 d5 :: os) (Ro.sl (Kd.int .u8) b3 a2 a0 :: rs)) := by
 unfold confidantseat_Code.f at H
 refine calls_of_EW (args := [sv b3 a2 a0, ia a5, ia a3, ia a6, .bool (a7)]) (c := Cd8) 149 Tryz.func8 (by kernel_rfl) (by kernel_rfl) (by kernel_rfl) ?_
 refine EW.sq (by kernel_rfl) ?_
 refine EW.rg (by kernel_rfl) ?_
 refine EL.quick 1 [0, 1, 2, 3, 4] [(0, sv b3 a2 a0), (1, ia a5), (2, ia a3), (3, ia a6), (4, .bool (a7))] (by kernel_rfl) ?_
 refine EL.done (by kernel_rfl) ?_
 refine EQ.code ?_
 refine EW.sq (by kernel_rfl) ?_
 refine EW.rg (by kernel_rfl) ?_
 refine EL.quick 1 [0, 1, 2, 3, 4, 11] [(0, sv b3 a2 a0), (1, ia a5), (2, ia a3), (3, ia a6), (4, .bool (a7)), (11, sv none 0 ([] : List (List S59)))] (by kernel_rfl) ?_
 refine EL.done (by kernel_rfl) ?_
 refine EQ.code ?_
 refine EW.sq (by kernel_rfl) ?_
 refine EW.sq (by kernel_rfl) ?_
 refine EW.rg (by kernel_rfl) ?_
 refine EL.quick 1 [0, 1, 2, 3, 4, 11, 12] [(0, sv b3 a2 a0), (1, ia a5), (2, ia a3), (3, ia a6), (4, .bool (a7)), (11, sv none 0 ([] : List (List S59))), (12, ia 0)] (by kernel_rfl) ?_
 refine EL.done (by kernel_rfl) ?_
 refine EQ.code ?_
 refine EW.bl 0 (by kernel_rfl) ?_
 have hS := St.nilDeep hS 56 59 kS59
 refine EW.lp (fun n a w => ∃ a4 : List (List S59), ∃ a1 : Int, ∃ a8 : Option Addr, ∃ a9 : Nat, Sat 149 [(0, sv b3 a2 a0), (1, ia a5), (2, ia a3), (3, ia a6), (4, .bool (a7)), (11, sv a8 a9 a4), (12, ia a1)] a ∧ St B w (Ass.deep 56 59 kS59 a8 a9 a4 :: os) (Ro.sl (Kd.int .u8) b3 a2 a0 :: rs) ∧ confidantseat_Code.l0 K a3 a0 a5 a6 a7 n a4 a1 = some d5) K (by kernel_rfl) ?_ (fun n a w hI => ?_)
 ·refine EQ.keep [0, 1, 2, 3, 4, 11, 12] [(0, sv b3 a2 a0), (1, ia a5), (2, ia a3), (3, ia a6), (4, .bool (a7)), (11, sv none 0 ([] : List (List S59))), (12, ia 0)] (by kernel_rfl) ?_
  exact fun a ha => ⟨([] : List (List S59)), 0, none, 0, ha, (hS.re [0] [] rfl (sub_cons 0 rfl (sub_tail (sub_self)))), H⟩
 obtain ⟨a4, a1, a8, a9, ha, hS, H⟩ := hI
 obtain _ | n := n
 ·simp [confidantseat_Code.l0] at H
 rw [confidantseat_Code.l0.eq_2] at H
 refine EW.at ?_ a ha
 clear ha a
 refine EW.sq (by kernel_rfl) ?_
 refine EW.sq (by kernel_rfl) ?_
 refine EW.rg (by kernel_rfl) ?_
 refine EL.quick 3 [0, 1, 2, 3, 4, 11, 12, 18] [(0, sv b3 a2 a0), (1, ia a5), (2, ia a3), (3, ia a6), (4, .bool (a7)), (11, sv a8 a9 a4), (12, ia a1), (18, .bool (decide (a1 < a3)))] (by kernel_rfl) ?_
 refine EL.done (by kernel_rfl) ?_
 refine EQ.code ?_
 refine EW.cdP (a1 < a3) (by kernel_rfl) (by kernel_rfl) (fun n3 => ?_) (fun n3 => ?_)
 ·rw [if_pos n3] at H
  refine EW.skip (by kernel_rfl) ?_
  refine EQ.code ?_
  obtain ⟨o2, t5, H⟩ := lt_out H
  refine EW.ct (fun a w => ∃ e4 : List (List S59), ∃ g3 : Option Addr, ∃ g5 : Nat, Sat 149 [(0, sv b3 a2 a0), (1, ia a5), (2, ia a3), (3, ia a6), (4, .bool (a7)), (11, sv g3 g5 e4), (12, ia a1)] a ∧ St B w (Ass.deep 56 59 kS59 g3 g5 e4 :: os) (Ro.sl (Kd.int .u8) b3 a2 a0 :: rs) ∧ o2 e4 = some d5) (by kernel_rfl) ?_ (fun a w hI => ?_)
  ·refine EW.bl 1 (by kernel_rfl) ?_
   refine EW.sq (by kernel_rfl) ?_
   refine EW.rg (by kernel_rfl) ?_
   refine EL.quick 1 [0, 1, 2, 3, 4, 11, 12, 13] [(0, sv b3 a2 a0), (1, ia a5), (2, ia a3), (3, ia a6), (4, .bool (a7)), (11, sv a8 a9 a4), (12, ia a1), (13, sv none 0 ([] : List S59))] (by kernel_rfl) ?_
   refine EL.done (by kernel_rfl) ?_
   refine EQ.code ?_
   obtain ⟨f2, t6, H⟩ := lt_out H
   refine EW.ct (fun a w => ∃ b7 : List S59, ∃ c0 : Option Addr, ∃ c1 : Nat, Sat 149 [(0, sv b3 a2 a0), (1, ia a5), (2, ia a3), (3, ia a6), (4, .bool (a7)), (11, sv a8 a9 a4), (12, ia a1), (13, sv c0 c1 b7)] a ∧ St B w (Ass.deep 56 59 kS59 a8 a9 a4 :: Ass.own 59 kS59 c0 c1 b7 :: os) (Ro.sl (Kd.int .u8) b3 a2 a0 :: rs) ∧ f2 b7 = some d5) (by kernel_rfl) ?_ (fun a w hI => ?_)
   ·refine EW.sq (by kernel_rfl) ?_
    refine EW.rg (by kernel_rfl) ?_
    refine EL.quick 3 [0, 1, 2, 3, 4, 11, 12, 13, 14] [(0, sv b3 a2 a0), (1, ia a5), (2, ia a3), (3, ia a6), (4, .bool (a7)), (11, sv a8 a9 a4), (12, ia a1), (13, sv none 0 ([] : List S59)), (14, ia (IntKind.i64.wrap (3 * a1)))] (by kernel_rfl) ?_
    refine EL.done (by kernel_rfl) ?_
    refine EQ.code ?_
    refine EW.bl 2 (by kernel_rfl) ?_
    have hS := St.nilO hS 59 kS59
    refine EW.lp (fun n a w => ∃ b4 : List S59, ∃ b0 : Int, ∃ b8 : Option Addr, ∃ b9 : Nat, Sat 149 [(0, sv b3 a2 a0), (1, ia a5), (2, ia a3), (3, ia a6), (4, .bool (a7)), (11, sv a8 a9 a4), (12, ia a1), (13, sv b8 b9 b4), (14, ia b0)] a ∧ St B w (Ass.deep 56 59 kS59 a8 a9 a4 :: Ass.own 59 kS59 b8 b9 b4 :: os) (Ro.sl (Kd.int .u8) b3 a2 a0 :: rs) ∧ confidantseat_Code.l1 K a3 a0 a5 a6 a7 f2 n b4 b0 = some d5) K (by kernel_rfl) ?_ (fun n a w hI => ?_)
    ·refine EQ.keep [0, 1, 2, 3, 4, 11, 12, 13, 14] [(0, sv b3 a2 a0), (1, ia a5), (2, ia a3), (3, ia a6), (4, .bool (a7)), (11, sv a8 a9 a4), (12, ia a1), (13, sv none 0 ([] : List S59)), (14, ia (IntKind.i64.wrap (3 * a1)))] (by kernel_rfl) ?_
     exact fun a ha => ⟨([] : List S59), IntKind.i64.wrap (3 * a1), none, 0, ha, (hS.re [0, 1] [] rfl (sub_cons 0 rfl (sub_tail (sub_self)))), H⟩
    obtain ⟨b4, b0, b8, b9, ha, hS, H⟩ := hI
    obtain _ | n := n
    ·simp [confidantseat_Code.l1] at H
    rw [confidantseat_Code.l1.eq_2] at H
    refine EW.at ?_ a ha
    clear ha a
    refine EW.sq (by kernel_rfl) ?_
    obtain ⟨m8, t7, H⟩ := lt_out H
    refine EW.ct (fun a w => ∃ i3 : Bool, Sat 149 [(0, sv b3 a2 a0), (1, ia a5), (2, ia a3), (3, ia a6), (4, .bool (a7)), (11, sv a8 a9 a4), (12, ia a1), (13, sv b8 b9 b4), (14, ia b0), (32, .bool (i3))] a ∧ St B w (Ass.deep 56 59 kS59 a8 a9 a4 :: Ass.own 59 kS59 b8 b9 b4 :: os) (Ro.sl (Kd.int .u8) b3 a2 a0 :: rs) ∧ m8 i3 = some d5) (by kernel_rfl) ?_ (fun a w hI => ?_)
    ·refine EW.rg (by kernel_rfl) ?_
     refine EL.quick 6 [0, 1, 2, 3, 4, 11, 12, 13, 14, 28] [(0, sv b3 a2 a0), (1, ia a5), (2, ia a3), (3, ia a6), (4, .bool (a7)), (11, sv a8 a9 a4), (12, ia a1), (13, sv b8 b9 b4), (14, ia b0), (28, .bool (decide ((IntKind.i64.wrap (b0 + 2)) < (a0.length : Int))))] (by kernel_rfl) ?_
     by_cases m1 : (IntKind.i64.wrap (b0 + 2)) < (a0.length : Int)
     ·rw [if_pos m1] at H
      refine EL.keep [0, 1, 2, 3, 4, 11, 12, 13, 14, 28] [(0, sv b3 a2 a0), (1, ia a5), (2, ia a3), (3, ia a6), (4, .bool (a7)), (11, sv a8 a9 a4), (12, ia a1), (13, sv b8 b9 b4), (14, ia b0), (28, .bool (decide ((IntKind.i64.wrap (b0 + 2)) < (a0.length : Int))))] (by kernel_rfl) ?_
      refine EL.as' [(0, sv b3 a2 a0), (1, ia a5), (2, ia a3), (3, ia a6), (4, .bool (a7)), (11, sv a8 a9 a4), (12, ia a1), (13, sv b8 b9 b4), (14, ia b0), (28, .bool (true))] (by simp only [sv, dec_t m1, Bool.not_true, Bool.not_false]) ?_
      refine EL.quick 4 [0, 1, 2, 3, 4, 11, 12, 13, 14, 29, 30, 31, 32] [(0, sv b3 a2 a0), (1, ia a5), (2, ia a3), (3, ia a6), (4, .bool (a7)), (11, sv a8 a9 a4), (12, ia a1), (13, sv b8 b9 b4), (14, ia b0), (29, sv b8 b9 b4), (30, ia (b4.length : Int)), (31, .bool (decide ((b4.length : Int) < 30))), (32, .bool (decide ((b4.length : Int) < 30)))] (by kernel_rfl) ?_
      refine EL.done (by kernel_rfl) ?_
      refine EQ.to ?_
      refine EQ.keep [0, 1, 2, 3, 4, 11, 12, 13, 14, 32] [(0, sv b3 a2 a0), (1, ia a5), (2, ia a3), (3, ia a6), (4, .bool (a7)), (11, sv a8 a9 a4), (12, ia a1), (13, sv b8 b9 b4), (14, ia b0), (32, .bool (decide ((b4.length : Int) < 30)))] (by kernel_rfl) ?_
      exact fun a ha => ⟨decide ((b4.length : Int) < 30), ha, (hS.re [1, 1] [] rfl (sub_cons 0 rfl (sub_tail (sub_self)))), H⟩
     rw [if_neg m1] at H
     refine EL.keep [0, 1, 2, 3, 4, 11, 12, 13, 14, 28] [(0, sv b3 a2 a0), (1, ia a5), (2, ia a3), (3, ia a6), (4, .bool (a7)), (11, sv a8 a9 a4), (12, ia a1), (13, sv b8 b9 b4), (14, ia b0), (28, .bool (decide ((IntKind.i64.wrap (b0 + 2)) < (a0.length : Int))))] (by kernel_rfl) ?_
     refine EL.as' [(0, sv b3 a2 a0), (1, ia a5), (2, ia a3), (3, ia a6), (4, .bool (a7)), (11, sv a8 a9 a4), (12, ia a1), (13, sv b8 b9 b4), (14, ia b0), (28, .bool (false))] (by simp only [sv, dec_f m1, Bool.not_true, Bool.not_false]) ?_
     refine EL.quick 4 [0, 1, 2, 3, 4, 11, 12, 13, 14, 32] [(0, sv b3 a2 a0), (1, ia a5), (2, ia a3), (3, ia a6), (4, .bool (a7)), (11, sv a8 a9 a4), (12, ia a1), (13, sv b8 b9 b4), (14, ia b0), (32, .bool (false))] (by kernel_rfl) ?_
     refine EL.done (by kernel_rfl) ?_
     refine EQ.to ?_
     refine EQ.keep [0, 1, 2, 3, 4, 11, 12, 13, 14, 32] [(0, sv b3 a2 a0), (1, ia a5), (2, ia a3), (3, ia a6), (4, .bool (a7)), (11, sv a8 a9 a4), (12, ia a1), (13, sv b8 b9 b4), (14, ia b0), (32, .bool (false))] (by kernel_rfl) ?_
     exact fun a ha => ⟨false, ha, (hS.re [1, 1] [] rfl (sub_cons 0 rfl (sub_tail (sub_self)))), H⟩
    obtain ⟨i3, ha, hS, H⟩ := hI
    rw [t7] at H
    (try dsimp only at H)
    refine EW.at ?_ a ha
    clear ha a
    refine EW.cdP' (i3) (by kernel_rfl) (by kernel_rfl) (fun n4 => ?_) (fun n4 => ?_)
    ·rw [if_pos n4] at H
     refine EW.skip (by kernel_rfl) ?_
     refine EQ.code ?_
     obtain ⟨m9, t8, H⟩ := lt_out H
     refine EW.ct (fun a w => ∃ n2 : List S59, ∃ e5 : List S59, ∃ o4 : Option Addr, ∃ o6 : Nat, ∃ g4 : Option Addr, ∃ g6 : Nat, Sat 149 [(0, sv b3 a2 a0), (1, ia a5), (2, ia a3), (3, ia a6), (4, .bool (a7)), (11, sv a8 a9 a4), (12, ia a1), (13, sv g4 g6 e5), (14, ia b0)] a ∧ St B w (Ass.own 59 kS59 o4 o6 n2 :: Ass.deep 56 59 kS59 a8 a9 a4 :: Ass.own 59 kS59 g4 g6 e5 :: os) (Ro.sl (Kd.int .u8) b3 a2 a0 :: rs) ∧ m9 n2 e5 = some d5) (by kernel_rfl) ?_ (fun a w hI => ?_)
     ·refine EW.bl 3 (by kernel_rfl) ?_
      refine EW.sq (by kernel_rfl) ?_
      obtain ⟨j8, H⟩ := ite_in H
      obtain ⟨j9, H⟩ := ite_in H
      obtain ⟨b5, rfl⟩ := St.rd_some hS (Rd.ro 0 rfl) j8 j9
      obtain ⟨m2, H⟩ := ite_in H
      obtain ⟨m3, H⟩ := ite_in H
      obtain ⟨m4, H⟩ := ite_in H
      obtain ⟨m5, H⟩ := ite_in H
      obtain ⟨b6, q2, H⟩ := b1_out H
      have hS := hS.drew
      refine EW.dr (B := B) [Ass.deep 56 59 kS59 a8 a9 a4, Ass.own 59 kS59 b8 b9 b4] [Ro.sl (Kd.int .u8) (some b5) a2 a0] (by kernel_rfl) (by kernel_rfl) ?_
      have hN : Region.noSelect Cd8.r.r.l.r.l.l.r.l.l.r.l.r.l.l.r.l.l.l.ops = true := (by kernel_rfl)
      have hF : freeAll Cd8.r.r.l.r.l.l.r.l.l.r.l.r.l.l.r.l.l.l.ops = true := (by kernel_rfl)
      have hC : Core B [Ass.deep 56 59 kS59 a8 a9 a4, Ass.own 59 kS59 b8 b9 b4] [Ro.sl (Kd.int .u8) (some b5) a2 a0] _ := ⟨_, _, hS⟩
      refine ED.quick hN hF hC [0, 1, 4, 5, 6, 9, 10, 11, 14, 15, 16, 17] [0, 1, 2, 3, 4, 11, 12, 13, 14, 37, 38, 41, 43, 46, 48, 51, 52, 53, 54] 8 [(0, sv (some b5) a2 a0), (1, ia a5), (2, ia a3), (3, ia a6), (4, .bool (a7)), (11, sv a8 a9 a4), (12, ia a1), (13, sv b8 b9 b4), (14, ia b0), (37, sv (some b5) a2 a0), (38, ia b0), (41, sv (some b5) a2 a0), (43, ia (IntKind.i64.wrap (b0 + 1))), (46, sv (some b5) a2 a0), (48, ia (IntKind.i64.wrap (b0 + 2))), (51, ia a5), (52, ia a3), (53, ia a6), (54, .bool (a7))] (bm 20 249459) (by kernel_rfl) (by kernel_rfl) ?_
      refine ED.Y hN hF hC 2 7 (bm 20 249463) (by kernel_rfl) (by kernel_rfl) rfl (fun _ _ _ hS => YO.idx 22 1 b5 a0.length a2 .i64 b0 39 (by kernel_rfl) (by kernel_rfl) (by kernel_rfl) (by kernel_rfl) j8 j9) ?_
      refine ED.Y hN hF hC 3 6 (bm 20 249471) (by kernel_rfl) (by kernel_rfl) rfl (fun _ _ _ hS => YO.loadEl hS (Kd.int .u8) b5 a2 a0 (Rd.ro 0 rfl) 0 (encI .u8) encI_of b0 j8 j9 5 1 0 1 rfl (ig (a0.getD b0.toNat 0)) 40 (by kernel_rfl) (by kernel_rfl) (by kernel_rfl) (by kernel_rfl)) ?_
      refine ED.Y hN hF hC 7 5 (bm 20 249599) (by kernel_rfl) (by kernel_rfl) rfl (fun _ _ _ hS => YO.idx 22 1 b5 a0.length a2 .i64 (IntKind.i64.wrap (b0 + 1)) 44 (by kernel_rfl) (by kernel_rfl) (by kernel_rfl) (by kernel_rfl) m2 m3) ?_
      refine ED.Y hN hF hC 8 4 (bm 20 249855) (by kernel_rfl) (by kernel_rfl) rfl (fun _ _ _ hS => YO.loadEl hS (Kd.int .u8) b5 a2 a0 (Rd.ro 0 rfl) 0 (encI .u8) encI_of (IntKind.i64.wrap (b0 + 1)) m2 m3 5 1 0 1 rfl (ig (a0.getD (IntKind.i64.wrap (b0 + 1)).toNat 0)) 45 (by kernel_rfl) (by kernel_rfl) (by kernel_rfl) (by kernel_rfl)) ?_
      refine ED.Y hN hF hC 12 3 (bm 20 253951) (by kernel_rfl) (by kernel_rfl) rfl (fun _ _ _ hS => YO.idx 22 1 b5 a0.length a2 .i64 (IntKind.i64.wrap (b0 + 2)) 49 (by kernel_rfl) (by kernel_rfl) (by kernel_rfl) (by kernel_rfl) m4 m5) ?_
      refine ED.Y hN hF hC 13 2 (bm 20 262143) (by kernel_rfl) (by kernel_rfl) rfl (fun _ _ _ hS => YO.loadEl hS (Kd.int .u8) b5 a2 a0 (Rd.ro 0 rfl) 0 (encI .u8) encI_of (IntKind.i64.wrap (b0 + 2)) m4 m5 5 1 0 1 rfl (ig (a0.getD (IntKind.i64.wrap (b0 + 2)).toNat 0)) 50 (by kernel_rfl) (by kernel_rfl) (by kernel_rfl) (by kernel_rfl)) ?_
      have hq := confidantseat_piece.calls q2 hS
      refine ED.one 18 1 (bm 20 524287) (by kernel_rfl) (by kernel_rfl) (by kernel_rfl) (EO.callD 23 [ig (a0.getD b0.toNat 0), ig (a0.getD (IntKind.i64.wrap (b0 + 1)).toNat 0), ig (a0.getD (IntKind.i64.wrap (b0 + 2)).toNat 0), ia a5, ia a3, ia a6, .bool (a7)] _ 55 (by kernel_rfl) (by kernel_rfl) (by kernel_rfl) hq ?_)
      rintro v w ⟨c2, c3, rfl, hS⟩
      have hC := hC.again ⟨_, _, hS.re [2, 2] [] rfl sub_self⟩
      refine ⟨hC, ?_⟩
      refine ED.quick hN hF hC [19] [0, 1, 2, 3, 4, 11, 12, 13, 14, 15] 0 [(0, sv (some b5) a2 a0), (1, ia a5), (2, ia a3), (3, ia a6), (4, .bool (a7)), (11, sv a8 a9 a4), (12, ia a1), (13, sv b8 b9 b4), (14, ia b0), (15, sv c2 c3 b6)] (bm 20 1048575) (by kernel_rfl) (by kernel_rfl) ?_
      refine ED.done (by kernel_rfl) ?_
      refine EQ.code ?_
      obtain ⟨n0, t9, H⟩ := lt_out H
      refine EW.ct (fun a w => ∃ e6 : List S59, ∃ i5 : Option Addr, ∃ j1 : Nat, Sat 149 [(0, sv (some b5) a2 a0), (1, ia a5), (2, ia a3), (3, ia a6), (4, .bool (a7)), (11, sv a8 a9 a4), (12, ia a1), (13, sv i5 j1 e6), (14, ia b0), (15, sv c2 c3 b6)] a ∧ St B w (Ass.own 59 kS59 c2 c3 b6 :: Ass.deep 56 59 kS59 a8 a9 a4 :: Ass.own 59 kS59 i5 j1 e6 :: os) (Ro.sl (Kd.int .u8) (some b5) a2 a0 :: rs) ∧ n0 e6 = some d5) (by kernel_rfl) ?_ (fun a w hI => ?_)
      ·refine EW.sq (by kernel_rfl) ?_
       refine EW.rg (by kernel_rfl) ?_
       refine EL.quick 3 [0, 1, 2, 3, 4, 11, 12, 13, 14, 15, 56, 58] [(0, sv (some b5) a2 a0), (1, ia a5), (2, ia a3), (3, ia a6), (4, .bool (a7)), (11, sv a8 a9 a4), (12, ia a1), (13, sv b8 b9 b4), (14, ia b0), (15, sv c2 c3 b6), (56, sv (some b5) a2 a0), (58, ia (IntKind.i64.wrap (b0 + 1)))] (by kernel_rfl) ?_
       refine EL.of (EO.Y (YO.idx 22 1 b5 a0.length a2 .i64 (IntKind.i64.wrap (b0 + 1)) 59 (by kernel_rfl) (by kernel_rfl) (by kernel_rfl) (by kernel_rfl) m2 m3) ?_)
       refine EL.of (EO.Y (YO.loadEl hS (Kd.int .u8) b5 a2 a0 (Rd.ro 0 rfl) 0 (encI .u8) encI_of (IntKind.i64.wrap (b0 + 1)) m2 m3 5 1 0 1 rfl (ig (a0.getD (IntKind.i64.wrap (b0 + 1)).toNat 0)) 60 (by kernel_rfl) (by kernel_rfl) (by kernel_rfl) (by kernel_rfl)) ?_)
       refine EL.quick 2 [0, 1, 2, 3, 4, 11, 12, 13, 14, 15, 62] [(0, sv (some b5) a2 a0), (1, ia a5), (2, ia a3), (3, ia a6), (4, .bool (a7)), (11, sv a8 a9 a4), (12, ia a1), (13, sv b8 b9 b4), (14, ia b0), (15, sv c2 c3 b6), (62, .bool (decide ((Int.tmod (a0.getD (IntKind.i64.wrap (b0 + 1)).toNat 0) 5) = 4)))] (by kernel_rfl) ?_
       refine EL.done (by kernel_rfl) ?_
       refine EQ.code ?_
       refine EW.cdP ((Int.tmod (a0.getD (IntKind.i64.wrap (b0 + 1)).toNat 0) 5) = 4) (by kernel_rfl) (by kernel_rfl) (fun n5 => ?_) (fun n5 => ?_)
       ·rw [if_pos n5] at H
        refine EW.rg (by kernel_rfl) ?_
        refine EL.quick 4 [0, 1, 2, 3, 4, 11, 12, 13, 14, 15, 63, 64, 66] [(0, sv (some b5) a2 a0), (1, ia a5), (2, ia a3), (3, ia a6), (4, .bool (a7)), (11, sv a8 a9 a4), (12, ia a1), (13, sv b8 b9 b4), (14, ia b0), (15, sv c2 c3 b6), (63, sv b8 b9 b4), (64, sv (some b5) a2 a0), (66, ia (IntKind.i64.wrap (b0 + 2)))] (by kernel_rfl) ?_
        refine EL.of (EO.Y (YO.idx 22 1 b5 a0.length a2 .i64 (IntKind.i64.wrap (b0 + 2)) 67 (by kernel_rfl) (by kernel_rfl) (by kernel_rfl) (by kernel_rfl) m4 m5) ?_)
        refine EL.of (EO.Y (YO.loadEl hS (Kd.int .u8) b5 a2 a0 (Rd.ro 0 rfl) 0 (encI .u8) encI_of (IntKind.i64.wrap (b0 + 2)) m4 m5 5 1 0 1 rfl (ig (a0.getD (IntKind.i64.wrap (b0 + 2)).toNat 0)) 68 (by kernel_rfl) (by kernel_rfl) (by kernel_rfl) (by kernel_rfl)) ?_)
        refine EL.quick 2 [0, 1, 2, 3, 4, 11, 12, 13, 14, 15, 63, 70] [(0, sv (some b5) a2 a0), (1, ia a5), (2, ia a3), (3, ia a6), (4, .bool (a7)), (11, sv a8 a9 a4), (12, ia a1), (13, sv b8 b9 b4), (14, ia b0), (15, sv c2 c3 b6), (63, sv b8 b9 b4), (70, ia (IntKind.i64.wrap (Int.tmod (a0.getD (IntKind.i64.wrap (b0 + 2)).toNat 0) 4)))] (by kernel_rfl) ?_
        obtain ⟨f8, e7, q3, H⟩ := b2_out H
        have hq := confidantseat_in.calls q3 hS
        refine EL.of (EO.callD 24 [ia 12, ia (IntKind.i64.wrap (Int.tmod (a0.getD (IntKind.i64.wrap (b0 + 2)).toNat 0) 4))] _ 71 (by kernel_rfl) (by kernel_rfl) (by kernel_rfl) hq ?_)
        rintro v w ⟨rfl, hS⟩
        refine EL.quick 6 [0, 1, 2, 3, 4, 11, 12, 14, 15, 63, 71, 77] [(0, sv (some b5) a2 a0), (1, ia a5), (2, ia a3), (3, ia a6), (4, .bool (a7)), (11, sv a8 a9 a4), (12, ia a1), (14, ia b0), (15, sv c2 c3 b6), (63, sv b8 b9 b4), (71, ag [ia f8, ib e7]), (77, ia (IntKind.i64.wrap ((IntKind.i64.wrap ((b4.length : Int) + 2)) + (b6.length : Int))))] (by kernel_rfl) ?_
        obtain ⟨f9, e8, q4, H⟩ := b2_out H
        have hq := confidantseat_in.calls q4 hS
        refine EL.of (EO.callD 24 [ia 11, ia (IntKind.i64.wrap ((IntKind.i64.wrap ((b4.length : Int) + 2)) + (b6.length : Int)))] _ 78 (by kernel_rfl) (by kernel_rfl) (by kernel_rfl) hq ?_)
        rintro v w ⟨rfl, hS⟩
        obtain ⟨g7, p2, H⟩ := lt_out H
        refine EL.of (EO.lit hS kS59 59 56 2 #[(0, ag [ia f8, ib e7]), (1, ag [ia f9, ib e8])] [ia f8, ib e7, ia f9, ib e8] g7 79 (by kernel_rfl) (by kernel_rfl) (by kernel_rfl) (fun _ => (by kernel_rfl)) (by rw [p2]; rfl) (by kernel_rfl) (fun w G hr => (by rw [p2]; exact ⟨[ia f8, ib e7], [ia f9, ib e8], rfl, ⟨[ia f8], [ib e7], rfl, rfl, ⟨[ib e7], [], rfl, rfl, rfl⟩⟩, ⟨[ia f9, ib e8], [], rfl, ⟨[ia f9], [ib e8], rfl, rfl, ⟨[ib e8], [], rfl, rfl, rfl⟩⟩, rfl⟩⟩)) ?_)
        intro o7 w hS
        obtain ⟨p6, H⟩ := ite_in H
        obtain ⟨f3, u2, H⟩ := lt_out H
        refine EL.of (EO.append hS 56 56 59 16 3 kS59 b8 b9 b4 rfl (some ⟨o7, 0, none⟩) 2 g7 (Rd.own 0 59 rfl) f3 u2 (fun i6 j2 => Ass.own 59 kS59 (some ⟨o7, 0, none⟩) 2 g7 :: Ass.own 59 kS59 c2 c3 b6 :: Ass.deep 56 59 kS59 a8 a9 a4 :: Ass.own 59 kS59 i6 j2 f3 :: os) 80 (by kernel_rfl) (by kernel_rfl) (by kernel_rfl) (by kernel_rfl) p6 (fun _ _ => rfl) ?_)
        intro i6 j2 w hS
        refine EL.quick 1 [0, 1, 2, 3, 4, 11, 12, 13, 14, 15] [(0, sv (some b5) a2 a0), (1, ia a5), (2, ia a3), (3, ia a6), (4, .bool (a7)), (11, sv a8 a9 a4), (12, ia a1), (13, sv i6 j2 f3), (14, ia b0), (15, sv c2 c3 b6)] (by kernel_rfl) ?_
        refine EL.done (by kernel_rfl) ?_
        refine EQ.to ?_
        refine EQ.keep [0, 1, 2, 3, 4, 11, 12, 13, 14, 15] [(0, sv (some b5) a2 a0), (1, ia a5), (2, ia a3), (3, ia a6), (4, .bool (a7)), (11, sv a8 a9 a4), (12, ia a1), (13, sv i6 j2 f3), (14, ia b0), (15, sv c2 c3 b6)] (by kernel_rfl) ?_
        exact fun a ha => ⟨f3, i6, j2, ha, (hS.re [3, 3, 3] [3] rfl (sub_cons 0 rfl (sub_tail (sub_self)))), H⟩
       rw [if_neg n5] at H
       refine EW.skip (by kernel_rfl) ?_
       refine EQ.to ?_
       refine EQ.keep [0, 1, 2, 3, 4, 11, 12, 13, 14, 15] [(0, sv (some b5) a2 a0), (1, ia a5), (2, ia a3), (3, ia a6), (4, .bool (a7)), (11, sv a8 a9 a4), (12, ia a1), (13, sv b8 b9 b4), (14, ia b0), (15, sv c2 c3 b6)] (by kernel_rfl) ?_
       exact fun a ha => ⟨b4, b8, b9, ha, (hS.re [2, 2, 2] [] rfl (sub_cons 0 rfl (sub_tail (sub_self)))), H⟩
      obtain ⟨e6, i5, j1, ha, hS, H⟩ := hI
      rw [t9] at H
      (try dsimp only at H)
      refine EW.at ?_ a ha
      clear ha a
      refine EW.sq (by kernel_rfl) ?_
      refine EW.rg (by kernel_rfl) ?_
      refine EL.quick 2 [0, 1, 2, 3, 4, 11, 12, 14, 15, 81, 82] [(0, sv (some b5) a2 a0), (1, ia a5), (2, ia a3), (3, ia a6), (4, .bool (a7)), (11, sv a8 a9 a4), (12, ia a1), (14, ia b0), (15, sv c2 c3 b6), (81, sv i5 j1 e6), (82, sv c2 c3 b6)] (by kernel_rfl) ?_
      obtain ⟨p7, H⟩ := ite_in H
      obtain ⟨c4, u3, H⟩ := lt_out H
      refine EL.of (EO.append hS 56 56 59 16 2 kS59 i5 j1 e6 rfl c2 c3 b6 (Rd.own 0 59 rfl) c4 u3 (fun c6 c7 => Ass.own 59 kS59 c2 c3 b6 :: Ass.deep 56 59 kS59 a8 a9 a4 :: Ass.own 59 kS59 c6 c7 c4 :: os) 83 (by kernel_rfl) (by kernel_rfl) (by kernel_rfl) (by kernel_rfl) p7 (fun _ _ => rfl) ?_)
      intro c6 c7 w hS
      refine EL.quick 1 [0, 1, 2, 3, 4, 11, 12, 13, 14, 15] [(0, sv (some b5) a2 a0), (1, ia a5), (2, ia a3), (3, ia a6), (4, .bool (a7)), (11, sv a8 a9 a4), (12, ia a1), (13, sv c6 c7 c4), (14, ia b0), (15, sv c2 c3 b6)] (by kernel_rfl) ?_
      refine EL.done (by kernel_rfl) ?_
      refine EQ.code ?_
      refine EW.sq (by kernel_rfl) ?_
      refine EW.rg (by kernel_rfl) ?_
      refine EL.quick 2 [0, 1, 2, 3, 4, 11, 12, 13, 14, 15, 84, 85] [(0, sv (some b5) a2 a0), (1, ia a5), (2, ia a3), (3, ia a6), (4, .bool (a7)), (11, sv a8 a9 a4), (12, ia a1), (13, sv c6 c7 c4), (14, ia b0), (15, sv c2 c3 b6), (84, sv (some b5) a2 a0), (85, ia b0)] (by kernel_rfl) ?_
      refine EL.of (EO.Y (YO.idx 22 1 b5 a0.length a2 .i64 b0 86 (by kernel_rfl) (by kernel_rfl) (by kernel_rfl) (by kernel_rfl) j8 j9) ?_)
      refine EL.of (EO.Y (YO.loadEl hS (Kd.int .u8) b5 a2 a0 (Rd.ro 0 rfl) 0 (encI .u8) encI_of b0 j8 j9 5 1 0 1 rfl (ig (a0.getD b0.toNat 0)) 87 (by kernel_rfl) (by kernel_rfl) (by kernel_rfl) (by kernel_rfl)) ?_)
      refine EL.quick 2 [0, 1, 2, 3, 4, 11, 12, 13, 14, 15, 89] [(0, sv (some b5) a2 a0), (1, ia a5), (2, ia a3), (3, ia a6), (4, .bool (a7)), (11, sv a8 a9 a4), (12, ia a1), (13, sv c6 c7 c4), (14, ia b0), (15, sv c2 c3 b6), (89, .bool (decide ((Int.tmod (a0.getD b0.toNat 0) 16) = 14)))] (by kernel_rfl) ?_
      refine EL.done (by kernel_rfl) ?_
      refine EQ.code ?_
      refine EW.cdP ((Int.tmod (a0.getD b0.toNat 0) 16) = 14) (by kernel_rfl) (by kernel_rfl) (fun n6 => ?_) (fun n6 => ?_)
      ·rw [if_pos n6] at H
       refine EW.rg (by kernel_rfl) ?_
       refine EL.quick 1 [0, 1, 2, 3, 4, 11, 12, 13, 14, 15, 90] [(0, sv (some b5) a2 a0), (1, ia a5), (2, ia a3), (3, ia a6), (4, .bool (a7)), (11, sv a8 a9 a4), (12, ia a1), (13, sv c6 c7 c4), (14, ia b0), (15, sv c2 c3 b6), (90, sv c6 c7 c4)] (by kernel_rfl) ?_
       obtain ⟨e9, e2, q5, H⟩ := b2_out H
       have hq := confidantseat_in.calls q5 hS
       refine EL.of (EO.callD 24 [ia 12, ia 1] _ 91 (by kernel_rfl) (by kernel_rfl) (by kernel_rfl) hq ?_)
       rintro v w ⟨rfl, hS⟩
       obtain ⟨e3, d8, q6, H⟩ := b2_out H
       have hq := confidantseat_in.calls q6 hS
       refine EL.of (EO.callD 24 [ia 1, ia 1] _ 92 (by kernel_rfl) (by kernel_rfl) (by kernel_rfl) hq ?_)
       rintro v w ⟨rfl, hS⟩
       obtain ⟨d9, d6, q7, H⟩ := b2_out H
       have hq := confidantseat_in.calls q7 hS
       refine EL.of (EO.callD 24 [ia 5, ia 0] _ 93 (by kernel_rfl) (by kernel_rfl) (by kernel_rfl) hq ?_)
       rintro v w ⟨rfl, hS⟩
       obtain ⟨d7, d1, q8, H⟩ := b2_out H
       have hq := confidantseat_in.calls q8 hS
       refine EL.of (EO.callD 24 [ia 13, ia 1] _ 94 (by kernel_rfl) (by kernel_rfl) (by kernel_rfl) hq ?_)
       rintro v w ⟨rfl, hS⟩
       obtain ⟨d2, c8, q9, H⟩ := b2_out H
       have hq := confidantseat_in.calls q9 hS
       refine EL.of (EO.callD 24 [ia 12, ia 1] _ 95 (by kernel_rfl) (by kernel_rfl) (by kernel_rfl) hq ?_)
       rintro v w ⟨rfl, hS⟩
       refine EL.quick 3 [0, 1, 2, 3, 4, 11, 12, 13, 14, 15, 90, 91, 92, 93, 94, 95, 98] [(0, sv (some b5) a2 a0), (1, ia a5), (2, ia a3), (3, ia a6), (4, .bool (a7)), (11, sv a8 a9 a4), (12, ia a1), (13, sv c6 c7 c4), (14, ia b0), (15, sv c2 c3 b6), (90, sv c6 c7 c4), (91, ag [ia e9, ib e2]), (92, ag [ia e3, ib d8]), (93, ag [ia d9, ib d6]), (94, ag [ia d7, ib d1]), (95, ag [ia d2, ib c8]), (98, ia (IntKind.i64.wrap ((c4.length : Int) + 7)))] (by kernel_rfl) ?_
       obtain ⟨d3, c9, t0, H⟩ := b2_out H
       have hq := confidantseat_in.calls t0 hS
       refine EL.of (EO.callD 24 [ia 11, ia (IntKind.i64.wrap ((c4.length : Int) + 7))] _ 99 (by kernel_rfl) (by kernel_rfl) (by kernel_rfl) hq ?_)
       rintro v w ⟨rfl, hS⟩
       refine EL.quick 7 [0, 1, 2, 3, 4, 11, 12, 14, 90, 91, 92, 93, 94, 95, 99, 106] [(0, sv (some b5) a2 a0), (1, ia a5), (2, ia a3), (3, ia a6), (4, .bool (a7)), (11, sv a8 a9 a4), (12, ia a1), (14, ia b0), (90, sv c6 c7 c4), (91, ag [ia e9, ib e2]), (92, ag [ia e3, ib d8]), (93, ag [ia d9, ib d6]), (94, ag [ia d7, ib d1]), (95, ag [ia d2, ib c8]), (99, ag [ia d3, ib c9]), (106, ia (mx (IntKind.i64.wrap ((IntKind.i64.wrap ((c4.length : Int) - (b6.length : Int))) + 2)) 0))] (by kernel_rfl) ?_
       obtain ⟨d4, d0, t1, H⟩ := b2_out H
       have hq := confidantseat_in.calls t1 hS
       refine EL.of (EO.callD 24 [ia 10, ia (mx (IntKind.i64.wrap ((IntKind.i64.wrap ((c4.length : Int) - (b6.length : Int))) + 2)) 0)] _ 107 (by kernel_rfl) (by kernel_rfl) (by kernel_rfl) hq ?_)
       rintro v w ⟨rfl, hS⟩
       obtain ⟨g8, p3, H⟩ := lt_out H
       refine EL.of (EO.lit hS kS59 59 56 7 #[(0, ag [ia e9, ib e2]), (1, ag [ia e3, ib d8]), (2, ag [ia d9, ib d6]), (3, ag [ia d7, ib d1]), (4, ag [ia d2, ib c8]), (5, ag [ia d3, ib c9]), (6, ag [ia d4, ib d0])] [ia e9, ib e2, ia e3, ib d8, ia d9, ib d6, ia d7, ib d1, ia d2, ib c8, ia d3, ib c9, ia d4, ib d0] g8 108 (by kernel_rfl) (by kernel_rfl) (by kernel_rfl) (fun _ => (by kernel_rfl)) (by rw [p3]; rfl) (by kernel_rfl) (fun w G hr => (by rw [p3]; exact ⟨[ia e9, ib e2], [ia e3, ib d8, ia d9, ib d6, ia d7, ib d1, ia d2, ib c8, ia d3, ib c9, ia d4, ib d0], rfl, ⟨[ia e9], [ib e2], rfl, rfl, ⟨[ib e2], [], rfl, rfl, rfl⟩⟩, ⟨[ia e3, ib d8], [ia d9, ib d6, ia d7, ib d1, ia d2, ib c8, ia d3, ib c9, ia d4, ib d0], rfl, ⟨[ia e3], [ib d8], rfl, rfl, ⟨[ib d8], [], rfl, rfl, rfl⟩⟩, ⟨[ia d9, ib d6], [ia d7, ib d1, ia d2, ib c8, ia d3, ib c9, ia d4, ib d0], rfl, ⟨[ia d9], [ib d6], rfl, rfl, ⟨[ib d6], [], rfl, rfl, rfl⟩⟩, ⟨[ia d7, ib d1], [ia d2, ib c8, ia d3, ib c9, ia d4, ib d0], rfl, ⟨[ia d7], [ib d1], rfl, rfl, ⟨[ib d1], [], rfl, rfl, rfl⟩⟩, ⟨[ia d2, ib c8], [ia d3, ib c9, ia d4, ib d0], rfl, ⟨[ia d2], [ib c8], rfl, rfl, ⟨[ib c8], [], rfl, rfl, rfl⟩⟩, ⟨[ia d3, ib c9], [ia d4, ib d0], rfl, ⟨[ia d3], [ib c9], rfl, rfl, ⟨[ib c9], [], rfl, rfl, rfl⟩⟩, ⟨[ia d4, ib d0], [], rfl, ⟨[ia d4], [ib d0], rfl, rfl, ⟨[ib d0], [], rfl, rfl, rfl⟩⟩, rfl⟩⟩⟩⟩⟩⟩⟩)) ?_)
       intro o8 w hS
       obtain ⟨p8, H⟩ := ite_in H
       obtain ⟨f4, u4, H⟩ := lt_out H
       refine EL.of (EO.append hS 56 56 59 16 3 kS59 c6 c7 c4 rfl (some ⟨o8, 0, none⟩) 7 g8 (Rd.own 0 59 rfl) f4 u4 (fun i7 j3 => Ass.own 59 kS59 (some ⟨o8, 0, none⟩) 7 g8 :: Ass.own 59 kS59 c2 c3 b6 :: Ass.deep 56 59 kS59 a8 a9 a4 :: Ass.own 59 kS59 i7 j3 f4 :: os) 109 (by kernel_rfl) (by kernel_rfl) (by kernel_rfl) (by kernel_rfl) p8 (fun _ _ => rfl) ?_)
       intro i7 j3 w hS
       refine EL.quick 1 [0, 1, 2, 3, 4, 11, 12, 13, 14] [(0, sv (some b5) a2 a0), (1, ia a5), (2, ia a3), (3, ia a6), (4, .bool (a7)), (11, sv a8 a9 a4), (12, ia a1), (13, sv i7 j3 f4), (14, ia b0)] (by kernel_rfl) ?_
       refine EL.done (by kernel_rfl) ?_
       refine EQ.pop ?_
       refine EQ.to ?_
       refine EQ.keep [0, 1, 2, 3, 4, 11, 12, 13, 14] [(0, sv (some b5) a2 a0), (1, ia a5), (2, ia a3), (3, ia a6), (4, .bool (a7)), (11, sv a8 a9 a4), (12, ia a1), (13, sv i7 j3 f4), (14, ia b0)] (by kernel_rfl) ?_
       exact fun a ha => ⟨b6, f4, c2, c3, i7, j3, ha, (hS.re [3, 3, 3] [3] rfl (sub_cons 0 rfl (sub_tail (sub_self)))), H⟩
      rw [if_neg n6] at H
      refine EW.skip (by kernel_rfl) ?_
      refine EQ.pop ?_
      refine EQ.to ?_
      refine EQ.keep [0, 1, 2, 3, 4, 11, 12, 13, 14] [(0, sv (some b5) a2 a0), (1, ia a5), (2, ia a3), (3, ia a6), (4, .bool (a7)), (11, sv a8 a9 a4), (12, ia a1), (13, sv c6 c7 c4), (14, ia b0)] (by kernel_rfl) ?_
      exact fun a ha => ⟨b6, c4, c2, c3, c6, c7, ha, (hS.re [2, 2, 2] [] rfl (sub_cons 0 rfl (sub_tail (sub_self)))), H⟩
     obtain ⟨n2, e5, o4, o6, g4, g6, ha, hS, H⟩ := hI
     rw [t8] at H
     (try dsimp only at H)
     refine EW.at ?_ a ha
     clear ha a
     refine EW.rg (by kernel_rfl) ?_
     refine EL.quick 5 [0, 1, 2, 3, 4, 11, 12, 13, 14] [(0, sv b3 a2 a0), (1, ia a5), (2, ia a3), (3, ia a6), (4, .bool (a7)), (11, sv a8 a9 a4), (12, ia a1), (13, sv g4 g6 e5), (14, ia (IntKind.i64.wrap (b0 + (IntKind.i64.wrap (3 * a3)))))] (by kernel_rfl) ?_
     refine EL.done (by kernel_rfl) ?_
     refine EQ.to ?_
     refine EQ.keep [0, 1, 2, 3, 4, 11, 12, 13, 14] [(0, sv b3 a2 a0), (1, ia a5), (2, ia a3), (3, ia a6), (4, .bool (a7)), (11, sv a8 a9 a4), (12, ia a1), (13, sv g4 g6 e5), (14, ia (IntKind.i64.wrap (b0 + (IntKind.i64.wrap (3 * a3)))))] (by kernel_rfl) ?_
     exact fun a ha => ⟨n, Nat.lt_succ_self n, e5, IntKind.i64.wrap (b0 + (IntKind.i64.wrap (3 * a3))), g4, g6, ha, (hS.re [2, 2] [2] rfl (sub_cons 0 rfl (sub_tail (sub_self)))), H⟩
    rw [if_neg n4] at H
    refine EW.exit (id := 2) (by kernel_rfl) ?_
    refine EQ.exitCode ?_
    refine EQ.exitTo ?_
    refine EQ.exitHere ?_
    refine EQ.to ?_
    refine EQ.keep [0, 1, 2, 3, 4, 11, 12, 13] [(0, sv b3 a2 a0), (1, ia a5), (2, ia a3), (3, ia a6), (4, .bool (a7)), (11, sv a8 a9 a4), (12, ia a1), (13, sv b8 b9 b4)] (by kernel_rfl) ?_
    exact fun a ha => ⟨b4, b8, b9, ha, (hS.re [1, 1] [] rfl (sub_cons 0 rfl (sub_tail (sub_self)))), H⟩
   obtain ⟨b7, c0, c1, ha, hS, H⟩ := hI
   rw [t6] at H
   (try dsimp only at H)
   refine EW.at ?_ a ha
   clear ha a
   obtain ⟨n1, u0, H⟩ := lt_out H
   refine EW.ct (fun a w => ∃ c5 : List S59, ∃ e0 : Option Addr, ∃ e1 : Nat, Sat 149 [(0, sv b3 a2 a0), (1, ia a5), (2, ia a3), (3, ia a6), (4, .bool (a7)), (11, sv a8 a9 a4), (12, ia a1), (13, sv e0 e1 c5)] a ∧ St B w (Ass.deep 56 59 kS59 a8 a9 a4 :: Ass.own 59 kS59 e0 e1 c5 :: os) (Ro.sl (Kd.int .u8) b3 a2 a0 :: rs) ∧ n1 c5 = some d5) (by kernel_rfl) ?_ (fun a w hI => ?_)
   ·obtain ⟨m0, u1, H⟩ := lt_out H
    refine EW.ct (fun a w => ∃ i4 : Bool, Sat 149 [(0, sv b3 a2 a0), (1, ia a5), (2, ia a3), (3, ia a6), (4, .bool (a7)), (11, sv a8 a9 a4), (12, ia a1), (13, sv c0 c1 b7), (126, .bool (i4))] a ∧ St B w (Ass.deep 56 59 kS59 a8 a9 a4 :: Ass.own 59 kS59 c0 c1 b7 :: os) (Ro.sl (Kd.int .u8) b3 a2 a0 :: rs) ∧ m0 i4 = some d5) (by kernel_rfl) ?_ (fun a w hI => ?_)
    ·refine EW.rg (by kernel_rfl) ?_
     refine EL.quick 4 [0, 1, 2, 3, 4, 11, 12, 13, 113] [(0, sv b3 a2 a0), (1, ia a5), (2, ia a3), (3, ia a6), (4, .bool (a7)), (11, sv a8 a9 a4), (12, ia a1), (13, sv c0 c1 b7), (113, .bool (decide ((Int.tmod a1 3) = 2)))] (by kernel_rfl) ?_
     by_cases m6 : (Int.tmod a1 3) = 2
     ·rw [if_pos m6] at H
      refine EL.keep [0, 1, 2, 3, 4, 11, 12, 13, 113] [(0, sv b3 a2 a0), (1, ia a5), (2, ia a3), (3, ia a6), (4, .bool (a7)), (11, sv a8 a9 a4), (12, ia a1), (13, sv c0 c1 b7), (113, .bool (decide ((Int.tmod a1 3) = 2)))] (by kernel_rfl) ?_
      refine EL.as' [(0, sv b3 a2 a0), (1, ia a5), (2, ia a3), (3, ia a6), (4, .bool (a7)), (11, sv a8 a9 a4), (12, ia a1), (13, sv c0 c1 b7), (113, .bool (true))] (by simp only [sv, dec_t m6, Bool.not_true, Bool.not_false]) ?_
      refine EL.quick 6 [0, 1, 2, 3, 4, 11, 12, 13, 114, 115, 116, 117, 119] [(0, sv b3 a2 a0), (1, ia a5), (2, ia a3), (3, ia a6), (4, .bool (a7)), (11, sv a8 a9 a4), (12, ia a1), (13, sv c0 c1 b7), (114, sv b3 a2 a0), (115, ia (a0.length : Int)), (116, ia a1), (117, .bool (decide ((a0.length : Int) > a1))), (119, .bool (decide ((a0.length : Int) > a1)))] (by kernel_rfl) ?_
      by_cases m7 : (a0.length : Int) > a1
      ·rw [if_pos m7] at H
       refine EL.keep [0, 1, 2, 3, 4, 11, 12, 13, 114, 115, 116, 117, 119] [(0, sv b3 a2 a0), (1, ia a5), (2, ia a3), (3, ia a6), (4, .bool (a7)), (11, sv a8 a9 a4), (12, ia a1), (13, sv c0 c1 b7), (114, sv b3 a2 a0), (115, ia (a0.length : Int)), (116, ia a1), (117, .bool (decide ((a0.length : Int) > a1))), (119, .bool (decide ((a0.length : Int) > a1)))] (by kernel_rfl) ?_
       refine EL.as' [(0, sv b3 a2 a0), (1, ia a5), (2, ia a3), (3, ia a6), (4, .bool (a7)), (11, sv a8 a9 a4), (12, ia a1), (13, sv c0 c1 b7), (114, sv b3 a2 a0), (115, ia (a0.length : Int)), (116, ia a1), (117, .bool (true)), (119, .bool (true))] (by simp only [sv, dec_t m7, Bool.not_true, Bool.not_false]) ?_
       refine EL.quick 2 [0, 1, 2, 3, 4, 11, 12, 13, 114, 115, 116, 117, 119, 120, 121] [(0, sv b3 a2 a0), (1, ia a5), (2, ia a3), (3, ia a6), (4, .bool (a7)), (11, sv a8 a9 a4), (12, ia a1), (13, sv c0 c1 b7), (114, sv b3 a2 a0), (115, ia (a0.length : Int)), (116, ia a1), (117, .bool (true)), (119, .bool (true)), (120, sv b3 a2 a0), (121, ia a1)] (by kernel_rfl) ?_
       obtain ⟨n7, H⟩ := ite_in H
       obtain ⟨n8, H⟩ := ite_in H
       obtain ⟨f1, rfl⟩ := St.rd_some hS (Rd.ro 0 rfl) n7 n8
       refine EL.of (EO.Y (YO.idx 22 1 f1 a0.length a2 .i64 a1 122 (by kernel_rfl) (by kernel_rfl) (by kernel_rfl) (by kernel_rfl) n7 n8) ?_)
       refine EL.of (EO.Y (YO.loadEl hS (Kd.int .u8) f1 a2 a0 (Rd.ro 0 rfl) 0 (encI .u8) encI_of a1 n7 n8 5 1 0 1 rfl (ig (a0.getD a1.toNat 0)) 123 (by kernel_rfl) (by kernel_rfl) (by kernel_rfl) (by kernel_rfl)) ?_)
       refine EL.quick 3 [0, 1, 2, 3, 4, 11, 12, 13, 114, 115, 116, 117, 120, 121, 122, 123, 124, 125, 126] [(0, sv (some f1) a2 a0), (1, ia a5), (2, ia a3), (3, ia a6), (4, .bool (a7)), (11, sv a8 a9 a4), (12, ia a1), (13, sv c0 c1 b7), (114, sv (some f1) a2 a0), (115, ia (a0.length : Int)), (116, ia a1), (117, .bool (true)), (120, sv (some f1) a2 a0), (121, ia a1), (122, .pointer (some ((f1.add (a1.toNat * 1)).add 0))), (123, ig (a0.getD a1.toNat 0)), (124, ig (Int.tmod (a0.getD a1.toNat 0) 8)), (125, .bool (decide ((Int.tmod (a0.getD a1.toNat 0) 8) = 0))), (126, .bool (decide ((Int.tmod (a0.getD a1.toNat 0) 8) = 0)))] (by kernel_rfl) ?_
       refine EL.done (by kernel_rfl) ?_
       refine EQ.to ?_
       refine EQ.keep [0, 1, 2, 3, 4, 11, 12, 13, 126] [(0, sv (some f1) a2 a0), (1, ia a5), (2, ia a3), (3, ia a6), (4, .bool (a7)), (11, sv a8 a9 a4), (12, ia a1), (13, sv c0 c1 b7), (126, .bool (decide ((Int.tmod (a0.getD a1.toNat 0) 8) = 0)))] (by kernel_rfl) ?_
       exact fun a ha => ⟨decide ((Int.tmod (a0.getD a1.toNat 0) 8) = 0), ha, (hS.re [1, 1] [] rfl (sub_cons 0 rfl (sub_tail (sub_self)))), H⟩
      rw [if_neg m7] at H
      refine EL.keep [0, 1, 2, 3, 4, 11, 12, 13, 114, 115, 116, 117, 119] [(0, sv b3 a2 a0), (1, ia a5), (2, ia a3), (3, ia a6), (4, .bool (a7)), (11, sv a8 a9 a4), (12, ia a1), (13, sv c0 c1 b7), (114, sv b3 a2 a0), (115, ia (a0.length : Int)), (116, ia a1), (117, .bool (decide ((a0.length : Int) > a1))), (119, .bool (decide ((a0.length : Int) > a1)))] (by kernel_rfl) ?_
      refine EL.as' [(0, sv b3 a2 a0), (1, ia a5), (2, ia a3), (3, ia a6), (4, .bool (a7)), (11, sv a8 a9 a4), (12, ia a1), (13, sv c0 c1 b7), (114, sv b3 a2 a0), (115, ia (a0.length : Int)), (116, ia a1), (117, .bool (false)), (119, .bool (false))] (by simp only [sv, dec_f m7, Bool.not_true, Bool.not_false]) ?_
      refine EL.quick 7 [0, 1, 2, 3, 4, 11, 12, 13, 114, 115, 116, 117, 126] [(0, sv b3 a2 a0), (1, ia a5), (2, ia a3), (3, ia a6), (4, .bool (a7)), (11, sv a8 a9 a4), (12, ia a1), (13, sv c0 c1 b7), (114, sv b3 a2 a0), (115, ia (a0.length : Int)), (116, ia a1), (117, .bool (false)), (126, .bool (false))] (by kernel_rfl) ?_
      refine EL.done (by kernel_rfl) ?_
      refine EQ.to ?_
      refine EQ.keep [0, 1, 2, 3, 4, 11, 12, 13, 126] [(0, sv b3 a2 a0), (1, ia a5), (2, ia a3), (3, ia a6), (4, .bool (a7)), (11, sv a8 a9 a4), (12, ia a1), (13, sv c0 c1 b7), (126, .bool (false))] (by kernel_rfl) ?_
      exact fun a ha => ⟨false, ha, (hS.re [1, 1] [] rfl (sub_cons 0 rfl (sub_tail (sub_self)))), H⟩
     rw [if_neg m6] at H
     refine EL.keep [0, 1, 2, 3, 4, 11, 12, 13, 113] [(0, sv b3 a2 a0), (1, ia a5), (2, ia a3), (3, ia a6), (4, .bool (a7)), (11, sv a8 a9 a4), (12, ia a1), (13, sv c0 c1 b7), (113, .bool (decide ((Int.tmod a1 3) = 2)))] (by kernel_rfl) ?_
     refine EL.as' [(0, sv b3 a2 a0), (1, ia a5), (2, ia a3), (3, ia a6), (4, .bool (a7)), (11, sv a8 a9 a4), (12, ia a1), (13, sv c0 c1 b7), (113, .bool (false))] (by simp only [sv, dec_f m6, Bool.not_true, Bool.not_false]) ?_
     refine EL.quick 13 [0, 1, 2, 3, 4, 11, 12, 13, 126] [(0, sv b3 a2 a0), (1, ia a5), (2, ia a3), (3, ia a6), (4, .bool (a7)), (11, sv a8 a9 a4), (12, ia a1), (13, sv c0 c1 b7), (126, .bool (false))] (by kernel_rfl) ?_
     refine EL.done (by kernel_rfl) ?_
     refine EQ.to ?_
     refine EQ.keep [0, 1, 2, 3, 4, 11, 12, 13, 126] [(0, sv b3 a2 a0), (1, ia a5), (2, ia a3), (3, ia a6), (4, .bool (a7)), (11, sv a8 a9 a4), (12, ia a1), (13, sv c0 c1 b7), (126, .bool (false))] (by kernel_rfl) ?_
     exact fun a ha => ⟨false, ha, (hS.re [1, 1] [] rfl (sub_cons 0 rfl (sub_tail (sub_self)))), H⟩
    obtain ⟨i4, ha, hS, H⟩ := hI
    rw [u1] at H
    (try dsimp only at H)
    refine EW.at ?_ a ha
    clear ha a
    refine EW.cdP' (i4) (by kernel_rfl) (by kernel_rfl) (fun n9 => ?_) (fun n9 => ?_)
    ·rw [if_pos n9] at H
     refine EW.rg (by kernel_rfl) ?_
     refine EL.quick 3 [0, 1, 2, 3, 4, 11, 12, 127, 128, 129] [(0, sv b3 a2 a0), (1, ia a5), (2, ia a3), (3, ia a6), (4, .bool (a7)), (11, sv a8 a9 a4), (12, ia a1), (127, sv c0 c1 b7), (128, sv b3 a2 a0), (129, ia a1)] (by kernel_rfl) ?_
     obtain ⟨o0, H⟩ := ite_in H
     obtain ⟨o1, H⟩ := ite_in H
     obtain ⟨j7, rfl⟩ := St.rd_some hS (Rd.ro 0 rfl) o0 o1
     refine EL.of (EO.Y (YO.idx 22 1 j7 a0.length a2 .i64 a1 130 (by kernel_rfl) (by kernel_rfl) (by kernel_rfl) (by kernel_rfl) o0 o1) ?_)
     refine EL.of (EO.Y (YO.loadEl hS (Kd.int .u8) j7 a2 a0 (Rd.ro 0 rfl) 0 (encI .u8) encI_of a1 o0 o1 5 1 0 1 rfl (ig (a0.getD a1.toNat 0)) 131 (by kernel_rfl) (by kernel_rfl) (by kernel_rfl) (by kernel_rfl)) ?_)
     refine EL.quick 2 [0, 1, 2, 3, 4, 11, 12, 127, 133] [(0, sv (some j7) a2 a0), (1, ia a5), (2, ia a3), (3, ia a6), (4, .bool (a7)), (11, sv a8 a9 a4), (12, ia a1), (127, sv c0 c1 b7), (133, ia (IntKind.i64.wrap (IntKind.u8.wrap (Int.tdiv (a0.getD a1.toNat 0) 8))))] (by kernel_rfl) ?_
     obtain ⟨i1, g0, t2, H⟩ := b2_out H
     have hq := confidantseat_in.calls t2 hS
     refine EL.of (EO.callD 24 [ia 26, ia (IntKind.i64.wrap (IntKind.u8.wrap (Int.tdiv (a0.getD a1.toNat 0) 8)))] _ 134 (by kernel_rfl) (by kernel_rfl) (by kernel_rfl) hq ?_)
     rintro v w ⟨rfl, hS⟩
     obtain ⟨g9, p4, H⟩ := lt_out H
     refine EL.of (EO.lit hS kS59 59 56 1 #[(0, ag [ia i1, ib g0])] [ia i1, ib g0] g9 135 (by kernel_rfl) (by kernel_rfl) (by kernel_rfl) (fun _ => (by kernel_rfl)) (by rw [p4]; rfl) (by kernel_rfl) (fun w G hr => (by rw [p4]; exact ⟨[ia i1, ib g0], [], rfl, ⟨[ia i1], [ib g0], rfl, rfl, ⟨[ib g0], [], rfl, rfl, rfl⟩⟩, rfl⟩)) ?_)
     intro o9 w hS
     obtain ⟨p9, H⟩ := ite_in H
     obtain ⟨f5, u5, H⟩ := lt_out H
     refine EL.of (EO.append hS 56 56 59 16 2 kS59 c0 c1 b7 rfl (some ⟨o9, 0, none⟩) 1 g9 (Rd.own 0 59 rfl) f5 u5 (fun i8 j4 => Ass.own 59 kS59 (some ⟨o9, 0, none⟩) 1 g9 :: Ass.deep 56 59 kS59 a8 a9 a4 :: Ass.own 59 kS59 i8 j4 f5 :: os) 136 (by kernel_rfl) (by kernel_rfl) (by kernel_rfl) (by kernel_rfl) p9 (fun _ _ => rfl) ?_)
     intro i8 j4 w hS
     refine EL.quick 1 [0, 1, 2, 3, 4, 11, 12, 13] [(0, sv (some j7) a2 a0), (1, ia a5), (2, ia a3), (3, ia a6), (4, .bool (a7)), (11, sv a8 a9 a4), (12, ia a1), (13, sv i8 j4 f5)] (by kernel_rfl) ?_
     refine EL.done (by kernel_rfl) ?_
     refine EQ.to ?_
     refine EQ.keep [0, 1, 2, 3, 4, 11, 12, 13] [(0, sv (some j7) a2 a0), (1, ia a5), (2, ia a3), (3, ia a6), (4, .bool (a7)), (11, sv a8 a9 a4), (12, ia a1), (13, sv i8 j4 f5)] (by kernel_rfl) ?_
     exact fun a ha => ⟨f5, i8, j4, ha, (hS.re [2, 2] [2] rfl (sub_cons 0 rfl (sub_tail (sub_self)))), H⟩
    rw [if_neg n9] at H
    refine EW.rg (by kernel_rfl) ?_
    refine EL.quick 3 [0, 1, 2, 3, 4, 11, 12, 137, 139] [(0, sv b3 a2 a0), (1, ia a5), (2, ia a3), (3, ia a6), (4, .bool (a7)), (11, sv a8 a9 a4), (12, ia a1), (137, sv c0 c1 b7), (139, ia (Int.tmod a1 4))] (by kernel_rfl) ?_
    obtain ⟨i2, g1, t3, H⟩ := b2_out H
    have hq := confidantseat_in.calls t3 hS
    refine EL.of (EO.callD 24 [ia 12, ia (Int.tmod a1 4)] _ 140 (by kernel_rfl) (by kernel_rfl) (by kernel_rfl) hq ?_)
    rintro v w ⟨rfl, hS⟩
    obtain ⟨g2, f0, t4, H⟩ := b2_out H
    have hq := confidantseat_in.calls t4 hS
    refine EL.of (EO.callD 24 [ia 25, ia 0] _ 141 (by kernel_rfl) (by kernel_rfl) (by kernel_rfl) hq ?_)
    rintro v w ⟨rfl, hS⟩
    obtain ⟨i0, p5, H⟩ := lt_out H
    refine EL.of (EO.lit hS kS59 59 56 2 #[(0, ag [ia i2, ib g1]), (1, ag [ia g2, ib f0])] [ia i2, ib g1, ia g2, ib f0] i0 142 (by kernel_rfl) (by kernel_rfl) (by kernel_rfl) (fun _ => (by kernel_rfl)) (by rw [p5]; rfl) (by kernel_rfl) (fun w G hr => (by rw [p5]; exact ⟨[ia i2, ib g1], [ia g2, ib f0], rfl, ⟨[ia i2], [ib g1], rfl, rfl, ⟨[ib g1], [], rfl, rfl, rfl⟩⟩, ⟨[ia g2, ib f0], [], rfl, ⟨[ia g2], [ib f0], rfl, rfl, ⟨[ib f0], [], rfl, rfl, rfl⟩⟩, rfl⟩⟩)) ?_)
    intro p0 w hS
    obtain ⟨q0, H⟩ := ite_in H
    obtain ⟨f6, u6, H⟩ := lt_out H
    refine EL.of (EO.append hS 56 56 59 16 2 kS59 c0 c1 b7 rfl (some ⟨p0, 0, none⟩) 2 i0 (Rd.own 0 59 rfl) f6 u6 (fun i9 j5 => Ass.own 59 kS59 (some ⟨p0, 0, none⟩) 2 i0 :: Ass.deep 56 59 kS59 a8 a9 a4 :: Ass.own 59 kS59 i9 j5 f6 :: os) 143 (by kernel_rfl) (by kernel_rfl) (by kernel_rfl) (by kernel_rfl) q0 (fun _ _ => rfl) ?_)
    intro i9 j5 w hS
    refine EL.quick 1 [0, 1, 2, 3, 4, 11, 12, 13] [(0, sv b3 a2 a0), (1, ia a5), (2, ia a3), (3, ia a6), (4, .bool (a7)), (11, sv a8 a9 a4), (12, ia a1), (13, sv i9 j5 f6)] (by kernel_rfl) ?_
    refine EL.done (by kernel_rfl) ?_
    refine EQ.to ?_
    refine EQ.keep [0, 1, 2, 3, 4, 11, 12, 13] [(0, sv b3 a2 a0), (1, ia a5), (2, ia a3), (3, ia a6), (4, .bool (a7)), (11, sv a8 a9 a4), (12, ia a1), (13, sv i9 j5 f6)] (by kernel_rfl) ?_
    exact fun a ha => ⟨f6, i9, j5, ha, (hS.re [2, 2] [2] rfl (sub_cons 0 rfl (sub_tail (sub_self)))), H⟩
   obtain ⟨c5, e0, e1, ha, hS, H⟩ := hI
   rw [u0] at H
   (try dsimp only at H)
   refine EW.at ?_ a ha
   clear ha a
   refine EW.rg (by kernel_rfl) ?_
   refine EL.quick 2 [0, 1, 2, 3, 4, 12, 144, 145] [(0, sv b3 a2 a0), (1, ia a5), (2, ia a3), (3, ia a6), (4, .bool (a7)), (12, ia a1), (144, sv a8 a9 a4), (145, sv e0 e1 c5)] (by kernel_rfl) ?_
   refine EL.of (EO.lit (xs := ([(e0, c5.length, e1)] : List Hdr)) hS Kd.hdr 56 26 1 #[(0, sv e0 e1 c5)] [sv e0 e1 c5] 146 (by kernel_rfl) (by kernel_rfl) (by kernel_rfl) (fun _ => (by kernel_rfl)) rfl (by kernel_rfl) (fun w G hr => ⟨[sv e0 e1 c5], [], rfl, rfl, rfl⟩) ?_)
   intro p1 w hS
   have hS := St.as (os' := Ass.deep 56 59 kS59 (some ⟨p1, 0, none⟩) 1 ([c5] : List (List S59)) :: Ass.deep 56 59 kS59 a8 a9 a4 :: os) (St.fold (B := B) (os := _) (rs := _) (et := 56) (et' := 59) (K := kS59) (hs := [(e0, c5.length, e1)]) (xs := ([c5] : List (List S59))) ⟨rfl, trivial⟩ (St.re hS [2, 1] [] rfl sub_self)) rfl
   obtain ⟨q1, H⟩ := ite_in H
   obtain ⟨f7, u7, H⟩ := lt_out H
   refine EL.of (EO.appendDeep hS 26 26 24 1 0 kS59 a8 a9 a4 rfl (some ⟨p1, 0, none⟩) 1 ([c5] : List (List S59)) rfl f7 u7 (fun j0 j6 => Ass.deep 56 59 kS59 j0 j6 f7 :: os) 147 (by kernel_rfl) (by kernel_rfl) (by kernel_rfl) (by kernel_rfl) q1 (fun _ _ => rfl) ?_)
   intro j0 j6 w hS
   refine EL.quick 1 [0, 1, 2, 3, 4, 11, 12] [(0, sv b3 a2 a0), (1, ia a5), (2, ia a3), (3, ia a6), (4, .bool (a7)), (11, sv j0 j6 f7), (12, ia a1)] (by kernel_rfl) ?_
   refine EL.done (by kernel_rfl) ?_
   refine EQ.pop ?_
   refine EQ.to ?_
   refine EQ.keep [0, 1, 2, 3, 4, 11, 12] [(0, sv b3 a2 a0), (1, ia a5), (2, ia a3), (3, ia a6), (4, .bool (a7)), (11, sv j0 j6 f7), (12, ia a1)] (by kernel_rfl) ?_
   exact fun a ha => ⟨f7, j0, j6, ha, (hS.re [0] [] rfl (sub_cons 0 rfl (sub_tail (sub_self)))), H⟩
  obtain ⟨e4, g3, g5, ha, hS, H⟩ := hI
  rw [t5] at H
  (try dsimp only at H)
  refine EW.at ?_ a ha
  clear ha a
  refine EW.rg (by kernel_rfl) ?_
  refine EL.quick 3 [0, 1, 2, 3, 4, 11, 12] [(0, sv b3 a2 a0), (1, ia a5), (2, ia a3), (3, ia a6), (4, .bool (a7)), (11, sv g3 g5 e4), (12, ia (IntKind.i64.wrap (a1 + 1)))] (by kernel_rfl) ?_
  refine EL.done (by kernel_rfl) ?_
  refine EQ.to ?_
  refine EQ.keep [0, 1, 2, 3, 4, 11, 12] [(0, sv b3 a2 a0), (1, ia a5), (2, ia a3), (3, ia a6), (4, .bool (a7)), (11, sv g3 g5 e4), (12, ia (IntKind.i64.wrap (a1 + 1)))] (by kernel_rfl) ?_
  exact fun a ha => ⟨n, Nat.lt_succ_self n, e4, IntKind.i64.wrap (a1 + 1), g3, g5, ha, (hS.re [0] [] rfl (sub_cons 0 rfl (sub_tail (sub_self)))), H⟩
 rw [if_neg n3] at H
 refine EW.exit (id := 0) (by kernel_rfl) ?_
 refine EQ.exitCode ?_
 refine EQ.exitTo ?_
 refine EQ.exitHere ?_
 refine EQ.code ?_
 refine EW.sq (by kernel_rfl) ?_
 refine EW.rg (by kernel_rfl) ?_
 refine EL.quick 2 [10] [(10, sv a8 a9 a4)] (by kernel_rfl) ?_
 refine EL.done (by kernel_rfl) ?_
 refine EQ.code ?_
 refine EW.ret (by kernel_rfl) ?_
 obtain rfl := Option.some.inj H
 exact EQ.leave (sv a8 a9 a4) (by kernel_rfl) ⟨_, rfl, a8, a9, rfl, (hS.re [0] [] rfl (sub_self))⟩

/-! ### confidant/confidantref1.Put: function 31 -/
def confidantref1_Put.l1 (K : Nat) (b9 : (List Int) → Option (List Int)) : Nat → (List Int) → Int → Option (List Int)
 | 0, _, _ => none
 | n + 1, a9, a7 => if a7 > 0 then (lt ([bO .u8 (IntKind.u8.wrap (bA .u64 a7 127)) 128] : List Int) fun c6 => (if (c6.length + a9.length) * 1 ≤ 140737488355328 then (lt (c6 ++ a9) fun b6 => (confidantref1_Put.l1 K b9 n b6 (sR .u64 a7 7))) else none)) else (b9 a9)
def confidantref1_Put.l0 (K : Nat) (a0 : List Int) : Nat → (List Int) → Int → Option (List Int)
 | 0, _, _ => none
 | n + 1, a3, a1 => if a1 < (a0.length : Int) then (lt (fun (b3 : List Int) (d1 : List Int) => (confidantref1_Put.l0 K a0 n b3 (IntKind.i64.wrap (a1 + 1)))) fun d3 => (if 0 ≤ a1 then (lt ([IntKind.u8.wrap (bA .u64 (a0.getD a1.toNat 0) 127)] : List Int) fun b5 => (lt (fun (b0 : List Int) => (if (a3.length + b0.length) * 1 ≤ 140737488355328 then (lt (a3 ++ b0) fun c0 => (d3 c0 b0)) else none)) fun b9 => (confidantref1_Put.l1 K b9 K b5 (sR .u64 (a0.getD a1.toNat 0) 7)))) else none)) else (some a3)
def confidantref1_Put.f (K : Nat) (a0 : List Int) : Option (List Int) := confidantref1_Put.l0 K a0 K ([] : List Int) 0
set_option maxRecDepth 100000 in
theorem confidantref1_Put.calls {K : Nat} {a0 : List Int} {a8 : Option Addr} {a2 : Nat} {c1 : List Int} {B w : World} {os : List Ass} {rs : List Ro} (H : confidantref1_Put.f K a0 = some c1) (hS : St B w (os) (Ro.sl (Kd.int .u64) a8 a2 a0 :: rs)) :
  Calls Tryz.prog 31 [sv a8 a2 a0].toArray w (fun en w' => ∃ v, en = .returned v ∧ ∃ d4 : Option Addr, ∃ d6 : Nat, v = sv d4 d6 c1 ∧ St B w' (Ass.own 5 (Kd.int .u8) d4 d6 c1 :: os) (Ro.sl (Kd.int .u64) a8 a2 a0 :: rs)) := by
 unfold confidantref1_Put.f at H
 refine calls_of_EW (args := [sv a8 a2 a0]) (c := Cd31) 40 Tryz.func31 (by kernel_rfl) (by kernel_rfl) (by kernel_rfl) ?_
 refine EW.sq (by kernel_rfl) ?_
 refine EW.rg (by kernel_rfl) ?_
 refine EL.quick 1 [0] [(0, sv a8 a2 a0)] (by kernel_rfl) ?_
 refine EL.done (by kernel_rfl) ?_
 refine EQ.code ?_
 refine EW.sq (by kernel_rfl) ?_
 refine EW.rg (by kernel_rfl) ?_
 refine EL.quick 1 [0, 3] [(0, sv a8 a2 a0), (3, sv none 0 ([] : List Int))] (by kernel_rfl) ?_
 refine EL.done (by kernel_rfl) ?_
 refine EQ.code ?_
 refine EW.sq (by kernel_rfl) ?_
 refine EW.sq (by kernel_rfl) ?_
 refine EW.rg (by kernel_rfl) ?_
 refine EL.quick 1 [0, 3, 4] [(0, sv a8 a2 a0), (3, sv none 0 ([] : List Int)), (4, ia 0)] (by kernel_rfl) ?_
 refine EL.done (by kernel_rfl) ?_
 refine EQ.code ?_
 refine EW.bl 0 (by kernel_rfl) ?_
 have hS := St.nilO hS 5 (Kd.int .u8)
 refine EW.lp (fun n a w => ∃ a3 : List Int, ∃ a1 : Int, ∃ a4 : Option Addr, ∃ a5 : Nat, Sat 40 [(0, sv a8 a2 a0), (3, sv a4 a5 a3), (4, ia a1)] a ∧ St B w (Ass.own 5 (Kd.int .u8) a4 a5 a3 :: os) (Ro.sl (Kd.int .u64) a8 a2 a0 :: rs) ∧ confidantref1_Put.l0 K a0 n a3 a1 = some c1) K (by kernel_rfl) ?_ (fun n a w hI => ?_)
 ·refine EQ.keep [0, 3, 4] [(0, sv a8 a2 a0), (3, sv none 0 ([] : List Int)), (4, ia 0)] (by kernel_rfl) ?_
  exact fun a ha => ⟨([] : List Int), 0, none, 0, ha, (hS.re [0] [] rfl (sub_cons 0 rfl (sub_tail (sub_self)))), H⟩
 obtain ⟨a3, a1, a4, a5, ha, hS, H⟩ := hI
 obtain _ | n := n
 ·simp [confidantref1_Put.l0] at H
 rw [confidantref1_Put.l0.eq_2] at H
 refine EW.at ?_ a ha
 clear ha a
 refine EW.sq (by kernel_rfl) ?_
 refine EW.sq (by kernel_rfl) ?_
 refine EW.rg (by kernel_rfl) ?_
 refine EL.quick 4 [0, 3, 4, 10] [(0, sv a8 a2 a0), (3, sv a4 a5 a3), (4, ia a1), (10, .bool (decide (a1 < (a0.length : Int))))] (by kernel_rfl) ?_
 refine EL.done (by kernel_rfl) ?_
 refine EQ.code ?_
 refine EW.cdP (a1 < (a0.length : Int)) (by kernel_rfl) (by kernel_rfl) (fun b4 => ?_) (fun b4 => ?_)
 ·rw [if_pos b4] at H
  refine EW.skip (by kernel_rfl) ?_
  refine EQ.code ?_
  obtain ⟨d3, e3, H⟩ := lt_out H
  refine EW.ct (fun a w => ∃ b3 : List Int, ∃ d1 : List Int, ∃ c2 : Option Addr, ∃ c4 : Nat, ∃ d5 : Option Addr, ∃ d7 : Nat, Sat 40 [(0, sv a8 a2 a0), (3, sv c2 c4 b3), (4, ia a1)] a ∧ St B w (Ass.own 5 (Kd.int .u8) c2 c4 b3 :: Ass.own 5 (Kd.int .u8) d5 d7 d1 :: os) (Ro.sl (Kd.int .u64) a8 a2 a0 :: rs) ∧ d3 b3 d1 = some c1) (by kernel_rfl) ?_ (fun a w hI => ?_)
  ·refine EW.bl 1 (by kernel_rfl) ?_
   refine EW.sq (by kernel_rfl) ?_
   refine EW.rg (by kernel_rfl) ?_
   refine EL.quick 2 [0, 3, 4, 13, 14] [(0, sv a8 a2 a0), (3, sv a4 a5 a3), (4, ia a1), (13, sv a8 a2 a0), (14, ia a1)] (by kernel_rfl) ?_
   obtain ⟨d0, H⟩ := ite_in H
   obtain ⟨a6, rfl⟩ := St.rd_some hS (Rd.ro 0 rfl) d0 b4
   refine EL.of (EO.Y (YO.idx 98 1 a6 a0.length a2 .i64 a1 15 (by kernel_rfl) (by kernel_rfl) (by kernel_rfl) (by kernel_rfl) d0 b4) ?_)
   refine EL.of (EO.Y (YO.loadEl hS (Kd.int .u64) a6 a2 a0 (Rd.ro 0 rfl) 0 (encI .u64) encI_of a1 d0 b4 66 1 0 1 rfl (ic (a0.getD a1.toNat 0)) 16 (by kernel_rfl) (by kernel_rfl) (by kernel_rfl) (by kernel_rfl)) ?_)
   refine EL.quick 2 [0, 3, 4, 18] [(0, sv (some a6) a2 a0), (3, sv a4 a5 a3), (4, ia a1), (18, ig (IntKind.u8.wrap (bA .u64 (a0.getD a1.toNat 0) 127)))] (by kernel_rfl) ?_
   obtain ⟨b5, d9, H⟩ := lt_out H
   refine EL.of (EO.lit hS (Kd.int .u8) 5 22 1 #[(0, ig (IntKind.u8.wrap (bA .u64 (a0.getD a1.toNat 0) 127)))] [ig (IntKind.u8.wrap (bA .u64 (a0.getD a1.toNat 0) 127))] b5 19 (by kernel_rfl) (by kernel_rfl) (by kernel_rfl) (fun _ => (by kernel_rfl)) (by rw [d9]; rfl) (by kernel_rfl) (fun w G hr => (by rw [d9]; exact ⟨[ig (IntKind.u8.wrap (bA .u64 (a0.getD a1.toNat 0) 127))], [], rfl, rfl, rfl⟩)) ?_)
   intro c9 w hS
   refine EL.quick 1 [0, 3, 4, 5] [(0, sv (some a6) a2 a0), (3, sv a4 a5 a3), (4, ia a1), (5, sv (some ⟨c9, 0, none⟩) 1 b5)] (by kernel_rfl) ?_
   refine EL.done (by kernel_rfl) ?_
   refine EQ.code ?_
   obtain ⟨b9, e4, H⟩ := lt_out H
   refine EW.ct (fun a w => ∃ b0 : List Int, ∃ b7 : Option Addr, ∃ b8 : Nat, Sat 40 [(0, sv (some a6) a2 a0), (3, sv a4 a5 a3), (4, ia a1), (5, sv b7 b8 b0)] a ∧ St B w (Ass.own 5 (Kd.int .u8) a4 a5 a3 :: Ass.own 5 (Kd.int .u8) b7 b8 b0 :: os) (Ro.sl (Kd.int .u64) (some a6) a2 a0 :: rs) ∧ b9 b0 = some c1) (by kernel_rfl) ?_ (fun a w hI => ?_)
   ·refine EW.sq (by kernel_rfl) ?_
    refine EW.rg (by kernel_rfl) ?_
    refine EL.quick 2 [0, 3, 4, 5, 20, 21] [(0, sv (some a6) a2 a0), (3, sv a4 a5 a3), (4, ia a1), (5, sv (some ⟨c9, 0, none⟩) 1 b5), (20, sv (some a6) a2 a0), (21, ia a1)] (by kernel_rfl) ?_
    refine EL.of (EO.Y (YO.idx 98 1 a6 a0.length a2 .i64 a1 22 (by kernel_rfl) (by kernel_rfl) (by kernel_rfl) (by kernel_rfl) d0 b4) ?_)
    refine EL.of (EO.Y (YO.loadEl hS (Kd.int .u64) a6 a2 a0 (Rd.ro 0 rfl) 0 (encI .u64) encI_of a1 d0 b4 66 1 0 1 rfl (ic (a0.getD a1.toNat 0)) 23 (by kernel_rfl) (by kernel_rfl) (by kernel_rfl) (by kernel_rfl)) ?_)
    refine EL.quick 2 [0, 3, 4, 5, 6] [(0, sv (some a6) a2 a0), (3, sv a4 a5 a3), (4, ia a1), (5, sv (some ⟨c9, 0, none⟩) 1 b5), (6, ic (sR .u64 (a0.getD a1.toNat 0) 7))] (by kernel_rfl) ?_
    refine EL.done (by kernel_rfl) ?_
    refine EQ.code ?_
    refine EW.bl 2 (by kernel_rfl) ?_
    refine EW.lp (fun n a w => ∃ a9 : List Int, ∃ a7 : Int, ∃ b1 : Option Addr, ∃ b2 : Nat, Sat 40 [(0, sv (some a6) a2 a0), (3, sv a4 a5 a3), (4, ia a1), (5, sv b1 b2 a9), (6, ic a7)] a ∧ St B w (Ass.own 5 (Kd.int .u8) a4 a5 a3 :: Ass.own 5 (Kd.int .u8) b1 b2 a9 :: os) (Ro.sl (Kd.int .u64) (some a6) a2 a0 :: rs) ∧ confidantref1_Put.l1 K b9 n a9 a7 = some c1) K (by kernel_rfl) ?_ (fun n a w hI => ?_)
    ·refine EQ.keep [0, 3, 4, 5, 6] [(0, sv (some a6) a2 a0), (3, sv a4 a5 a3), (4, ia a1), (5, sv (some ⟨c9, 0, none⟩) 1 b5), (6, ic (sR .u64 (a0.getD a1.toNat 0) 7))] (by kernel_rfl) ?_
     exact fun a ha => ⟨b5, sR .u64 (a0.getD a1.toNat 0) 7, (some ⟨c9, 0, none⟩), 1, ha, (hS.re [0, 1] [] rfl (sub_cons 0 rfl (sub_tail (sub_self)))), H⟩
    obtain ⟨a9, a7, b1, b2, ha, hS, H⟩ := hI
    obtain _ | n := n
    ·simp [confidantref1_Put.l1] at H
    rw [confidantref1_Put.l1.eq_2] at H
    refine EW.at ?_ a ha
    clear ha a
    refine EW.sq (by kernel_rfl) ?_
    refine EW.sq (by kernel_rfl) ?_
    refine EW.rg (by kernel_rfl) ?_
    refine EL.quick 2 [0, 3, 4, 5, 6, 26] [(0, sv (some a6) a2 a0), (3, sv a4 a5 a3), (4, ia a1), (5, sv b1 b2 a9), (6, ic a7), (26, .bool (decide (a7 > 0)))] (by kernel_rfl) ?_
    refine EL.done (by kernel_rfl) ?_
    refine EQ.code ?_
    refine EW.cdP (a7 > 0) (by kernel_rfl) (by kernel_rfl) (fun d2 => ?_) (fun d2 => ?_)
    ·rw [if_pos d2] at H
     refine EW.skip (by kernel_rfl) ?_
     refine EQ.code ?_
     refine EW.sq (by kernel_rfl) ?_
     refine EW.bl 3 (by kernel_rfl) ?_
     refine EW.rg (by kernel_rfl) ?_
     refine EL.quick 4 [0, 3, 4, 5, 6, 32] [(0, sv (some a6) a2 a0), (3, sv a4 a5 a3), (4, ia a1), (5, sv b1 b2 a9), (6, ic a7), (32, ig (bO .u8 (IntKind.u8.wrap (bA .u64 a7 127)) 128))] (by kernel_rfl) ?_
     obtain ⟨c6, e0, H⟩ := lt_out H
     refine EL.of (EO.lit hS (Kd.int .u8) 5 22 1 #[(0, ig (bO .u8 (IntKind.u8.wrap (bA .u64 a7 127)) 128))] [ig (bO .u8 (IntKind.u8.wrap (bA .u64 a7 127)) 128)] c6 33 (by kernel_rfl) (by kernel_rfl) (by kernel_rfl) (fun _ => (by kernel_rfl)) (by rw [e0]; rfl) (by kernel_rfl) (fun w G hr => (by rw [e0]; exact ⟨[ig (bO .u8 (IntKind.u8.wrap (bA .u64 a7 127)) 128)], [], rfl, rfl, rfl⟩)) ?_)
     intro d8 w hS
     refine EL.quick 1 [0, 3, 4, 6, 33, 34] [(0, sv (some a6) a2 a0), (3, sv a4 a5 a3), (4, ia a1), (6, ic a7), (33, sv (some ⟨d8, 0, none⟩) 1 c6), (34, sv b1 b2 a9)] (by kernel_rfl) ?_
     obtain ⟨e1, H⟩ := ite_in H
     obtain ⟨b6, e5, H⟩ := lt_out H
     refine EL.of (EO.append hS 22 22 5 1 0 (Kd.int .u8) (some ⟨d8, 0, none⟩) 1 c6 rfl b1 b2 a9 (Rd.own 2 5 rfl) b6 e5 (fun c3 c5 => Ass.own 5 (Kd.int .u8) c3 c5 b6 :: Ass.own 5 (Kd.int .u8) a4 a5 a3 :: Ass.own 5 (Kd.int .u8) b1 b2 a9 :: os) 35 (by kernel_rfl) (by kernel_rfl) (by kernel_rfl) (by kernel_rfl) e1 (fun _ _ => rfl) ?_)
     intro c3 c5 w hS
     refine EL.quick 1 [0, 3, 4, 5, 6] [(0, sv (some a6) a2 a0), (3, sv a4 a5 a3), (4, ia a1), (5, sv c3 c5 b6), (6, ic a7)] (by kernel_rfl) ?_
     refine EL.done (by kernel_rfl) ?_
     refine EQ.pop ?_
     refine EQ.code ?_
     refine EW.rg (by kernel_rfl) ?_
     refine EL.quick 3 [0, 3, 4, 5, 6] [(0, sv (some a6) a2 a0), (3, sv a4 a5 a3), (4, ia a1), (5, sv c3 c5 b6), (6, ic (sR .u64 a7 7))] (by kernel_rfl) ?_
     refine EL.done (by kernel_rfl) ?_
     refine EQ.to ?_
     refine EQ.keep [0, 3, 4, 5, 6] [(0, sv (some a6) a2 a0), (3, sv a4 a5 a3), (4, ia a1), (5, sv c3 c5 b6), (6, ic (sR .u64 a7 7))] (by kernel_rfl) ?_
     exact fun a ha => ⟨n, Nat.lt_succ_self n, b6, sR .u64 a7 7, c3, c5, ha, (hS.re [0, 1] [2] rfl (sub_cons 0 rfl (sub_tail (sub_self)))), H⟩
    rw [if_neg d2] at H
    refine EW.exit (id := 2) (by kernel_rfl) ?_
    refine EQ.exitCode ?_
    refine EQ.exitTo ?_
    refine EQ.exitHere ?_
    refine EQ.to ?_
    refine EQ.keep [0, 3, 4, 5] [(0, sv (some a6) a2 a0), (3, sv a4 a5 a3), (4, ia a1), (5, sv b1 b2 a9)] (by kernel_rfl) ?_
    exact fun a ha => ⟨a9, b1, b2, ha, (hS.re [1, 1] [] rfl (sub_cons 0 rfl (sub_tail (sub_self)))), H⟩
   obtain ⟨b0, b7, b8, ha, hS, H⟩ := hI
   rw [e4] at H
   (try dsimp only at H)
   refine EW.at ?_ a ha
   clear ha a
   refine EW.rg (by kernel_rfl) ?_
   refine EL.quick 2 [0, 4, 36, 37] [(0, sv (some a6) a2 a0), (4, ia a1), (36, sv a4 a5 a3), (37, sv b7 b8 b0)] (by kernel_rfl) ?_
   obtain ⟨e2, H⟩ := ite_in H
   obtain ⟨c0, e6, H⟩ := lt_out H
   refine EL.of (EO.append hS 22 22 5 1 0 (Kd.int .u8) a4 a5 a3 rfl b7 b8 b0 (Rd.own 1 5 rfl) c0 e6 (fun c7 c8 => Ass.own 5 (Kd.int .u8) c7 c8 c0 :: Ass.own 5 (Kd.int .u8) b7 b8 b0 :: os) 38 (by kernel_rfl) (by kernel_rfl) (by kernel_rfl) (by kernel_rfl) e2 (fun _ _ => rfl) ?_)
   intro c7 c8 w hS
   refine EL.quick 1 [0, 3, 4] [(0, sv (some a6) a2 a0), (3, sv c7 c8 c0), (4, ia a1)] (by kernel_rfl) ?_
   refine EL.done (by kernel_rfl) ?_
   refine EQ.pop ?_
   refine EQ.to ?_
   refine EQ.keep [0, 3, 4] [(0, sv (some a6) a2 a0), (3, sv c7 c8 c0), (4, ia a1)] (by kernel_rfl) ?_
   exact fun a ha => ⟨c0, b0, c7, c8, b7, b8, ha, (hS.re [1, 1] [] rfl (sub_cons 0 rfl (sub_tail (sub_self)))), H⟩
  obtain ⟨b3, d1, c2, c4, d5, d7, ha, hS, H⟩ := hI
  rw [e3] at H
  (try dsimp only at H)
  refine EW.at ?_ a ha
  clear ha a
  refine EW.rg (by kernel_rfl) ?_
  refine EL.quick 3 [0, 3, 4] [(0, sv a8 a2 a0), (3, sv c2 c4 b3), (4, ia (IntKind.i64.wrap (a1 + 1)))] (by kernel_rfl) ?_
  refine EL.done (by kernel_rfl) ?_
  refine EQ.to ?_
  refine EQ.keep [0, 3, 4] [(0, sv a8 a2 a0), (3, sv c2 c4 b3), (4, ia (IntKind.i64.wrap (a1 + 1)))] (by kernel_rfl) ?_
  exact fun a ha => ⟨n, Nat.lt_succ_self n, b3, IntKind.i64.wrap (a1 + 1), c2, c4, ha, (hS.re [0] [1] rfl (sub_cons 0 rfl (sub_tail (sub_self)))), H⟩
 rw [if_neg b4] at H
 refine EW.exit (id := 0) (by kernel_rfl) ?_
 refine EQ.exitCode ?_
 refine EQ.exitTo ?_
 refine EQ.exitHere ?_
 refine EQ.code ?_
 refine EW.sq (by kernel_rfl) ?_
 refine EW.rg (by kernel_rfl) ?_
 refine EL.quick 2 [2] [(2, sv a4 a5 a3)] (by kernel_rfl) ?_
 refine EL.done (by kernel_rfl) ?_
 refine EQ.code ?_
 refine EW.ret (by kernel_rfl) ?_
 obtain rfl := Option.some.inj H
 exact EQ.leave (sv a4 a5 a3) (by kernel_rfl) ⟨_, rfl, a4, a5, rfl, (hS.re [0] [] rfl (sub_self))⟩

/-! ### confidant/confidantref5.Arg: function 47 -/
def confidantref5_Arg.f (K : Nat) (a0 : Int) : Option Int := lt (fun (a3 : Bool) => (if a3 = true then (some 1) else (lt (fun (a4 : Bool) => (if a4 = true then (some 2) else (lt (fun (a5 : Bool) => (if a5 = true then (some 3) else (lt (fun (a6 : Bool) => (if a6 = true then (some 4) else (if a0 = 20 then (some 5) else (lt (fun (a7 : Bool) => (if a7 = true then (some 6) else (some 0))) fun b8 => (if a0 = 23 then (b8 true) else (b8 (decide (a0 = 24)))))))) fun a2 => (if a0 = 15 then (a2 true) else (if a0 = 16 then (a2 true) else (if a0 = 17 then (a2 true) else (a2 (decide (a0 = 22))))))))) fun b7 => (if a0 = 12 then (b7 true) else (b7 (decide (a0 = 13))))))) fun b6 => (if a0 = 10 then (b6 true) else (b6 (decide (a0 = 11))))))) fun b5 => (if a0 = 1 then (b5 true) else (b5 (decide (a0 = 26))))
set_option maxRecDepth 100000 in
theorem confidantref5_Arg.calls {K : Nat} {a0 : Int} {a1 : Int} {B w : World} {os : List Ass} {rs : List Ro} (H : confidantref5_Arg.f K a0 = some a1) (hS : St B w (os) (rs)) :
  Calls Tryz.prog 47 [ia a0].toArray w (fun en w' => ∃ v, en = .returned v ∧ v = ia a1 ∧ St B w' (os) (rs)) := by
 unfold confidantref5_Arg.f at H
 refine calls_of_EW (args := [ia a0]) (c := Cd47) 23 Tryz.func47 (by kernel_rfl) (by kernel_rfl) (by kernel_rfl) ?_
 refine EW.sq (by kernel_rfl) ?_
 refine EW.rg (by kernel_rfl) ?_
 refine EL.quick 1 [0] [(0, ia a0)] (by kernel_rfl) ?_
 refine EL.done (by kernel_rfl) ?_
 refine EQ.code ?_
 refine EW.sq (by kernel_rfl) ?_
 refine EW.sq (by kernel_rfl) ?_
 refine EW.rg (by kernel_rfl) ?_
 refine EL.quick 1 [3] [(3, ia a0)] (by kernel_rfl) ?_
 refine EL.done (by kernel_rfl) ?_
 refine EQ.code ?_
 refine EW.bl 0 (by kernel_rfl) ?_
 obtain ⟨b5, c5, H⟩ := lt_out H
 refine EW.ct (fun a w => ∃ a3 : Bool, Sat 23 [(3, ia a0), (4, .bool (a3))] a ∧ St B w (os) (rs) ∧ b5 a3 = some a1) (by kernel_rfl) ?_ (fun a w hI => ?_)
 ·refine EW.sq (by kernel_rfl) ?_
  refine EW.rg (by kernel_rfl) ?_
  refine EL.quick 2 [3, 4] [(3, ia a0), (4, .bool (decide (a0 = 1)))] (by kernel_rfl) ?_
  refine EL.done (by kernel_rfl) ?_
  refine EQ.code ?_
  refine EW.cdP (a0 = 1) (by kernel_rfl) (by kernel_rfl) (fun a8 => ?_) (fun a8 => ?_)
  ·rw [if_pos a8] at H
   refine EW.keep [3, 4] [(3, ia a0), (4, .bool (decide (a0 = 1)))] (by kernel_rfl) ?_
   refine EW.as' [(3, ia a0), (4, .bool (true))] (by simp only [dec_t a8, Bool.not_true, Bool.not_false]) ?_
   refine EW.skip (by kernel_rfl) ?_
   refine EQ.to ?_
   refine EQ.keep [3, 4] [(3, ia a0), (4, .bool (true))] (by kernel_rfl) ?_
   exact fun a ha => ⟨true, ha, (hS.re [] [] rfl (sub_self)), H⟩
  rw [if_neg a8] at H
  refine EW.rg (by kernel_rfl) ?_
  refine EL.quick 2 [3, 4] [(3, ia a0), (4, .bool (decide (a0 = 26)))] (by kernel_rfl) ?_
  refine EL.done (by kernel_rfl) ?_
  refine EQ.to ?_
  refine EQ.keep [3, 4] [(3, ia a0), (4, .bool (decide (a0 = 26)))] (by kernel_rfl) ?_
  exact fun a ha => ⟨decide (a0 = 26), ha, (hS.re [] [] rfl (sub_self)), H⟩
 obtain ⟨a3, ha, hS, H⟩ := hI
 rw [c5] at H
 (try dsimp only at H)
 refine EW.at ?_ a ha
 clear ha a
 refine EW.cdP' (a3) (by kernel_rfl) (by kernel_rfl) (fun b9 => ?_) (fun b9 => ?_)
 ·rw [if_pos b9] at H
  refine EW.sq (by kernel_rfl) ?_
  refine EW.rg (by kernel_rfl) ?_
  refine EL.quick 1 [2] [(2, ia 1)] (by kernel_rfl) ?_
  refine EL.done (by kernel_rfl) ?_
  refine EQ.code ?_
  refine EW.ret (by kernel_rfl) ?_
  refine EQ.ret ?_
  refine EQ.ret ?_
  obtain rfl := Option.some.inj H
  exact EQ.leave (ia 1) (by kernel_rfl) ⟨_, rfl, rfl, (hS.re [] [] rfl (sub_self))⟩
 rw [if_neg b9] at H
 obtain ⟨b6, c6, H⟩ := lt_out H
 refine EW.ct (fun a w => ∃ a4 : Bool, Sat 23 [(3, ia a0), (7, .bool (a4))] a ∧ St B w (os) (rs) ∧ b6 a4 = some a1) (by kernel_rfl) ?_ (fun a w hI => ?_)
 ·refine EW.sq (by kernel_rfl) ?_
  refine EW.rg (by kernel_rfl) ?_
  refine EL.quick 2 [3, 7] [(3, ia a0), (7, .bool (decide (a0 = 10)))] (by kernel_rfl) ?_
  refine EL.done (by kernel_rfl) ?_
  refine EQ.code ?_
  refine EW.cdP (a0 = 10) (by kernel_rfl) (by kernel_rfl) (fun a9 => ?_) (fun a9 => ?_)
  ·rw [if_pos a9] at H
   refine EW.keep [3, 7] [(3, ia a0), (7, .bool (decide (a0 = 10)))] (by kernel_rfl) ?_
   refine EW.as' [(3, ia a0), (7, .bool (true))] (by simp only [dec_t a9, Bool.not_true, Bool.not_false]) ?_
   refine EW.skip (by kernel_rfl) ?_
   refine EQ.to ?_
   refine EQ.keep [3, 7] [(3, ia a0), (7, .bool (true))] (by kernel_rfl) ?_
   exact fun a ha => ⟨true, ha, (hS.re [] [] rfl (sub_self)), H⟩
  rw [if_neg a9] at H
  refine EW.rg (by kernel_rfl) ?_
  refine EL.quick 2 [3, 7] [(3, ia a0), (7, .bool (decide (a0 = 11)))] (by kernel_rfl) ?_
  refine EL.done (by kernel_rfl) ?_
  refine EQ.to ?_
  refine EQ.keep [3, 7] [(3, ia a0), (7, .bool (decide (a0 = 11)))] (by kernel_rfl) ?_
  exact fun a ha => ⟨decide (a0 = 11), ha, (hS.re [] [] rfl (sub_self)), H⟩
 obtain ⟨a4, ha, hS, H⟩ := hI
 rw [c6] at H
 (try dsimp only at H)
 refine EW.at ?_ a ha
 clear ha a
 refine EW.cdP' (a4) (by kernel_rfl) (by kernel_rfl) (fun c0 => ?_) (fun c0 => ?_)
 ·rw [if_pos c0] at H
  refine EW.sq (by kernel_rfl) ?_
  refine EW.rg (by kernel_rfl) ?_
  refine EL.quick 1 [2] [(2, ia 2)] (by kernel_rfl) ?_
  refine EL.done (by kernel_rfl) ?_
  refine EQ.code ?_
  refine EW.ret (by kernel_rfl) ?_
  refine EQ.ret ?_
  refine EQ.ret ?_
  obtain rfl := Option.some.inj H
  exact EQ.leave (ia 2) (by kernel_rfl) ⟨_, rfl, rfl, (hS.re [] [] rfl (sub_self))⟩
 rw [if_neg c0] at H
 obtain ⟨b7, c7, H⟩ := lt_out H
 refine EW.ct (fun a w => ∃ a5 : Bool, Sat 23 [(3, ia a0), (10, .bool (a5))] a ∧ St B w (os) (rs) ∧ b7 a5 = some a1) (by kernel_rfl) ?_ (fun a w hI => ?_)
 ·refine EW.sq (by kernel_rfl) ?_
  refine EW.rg (by kernel_rfl) ?_
  refine EL.quick 2 [3, 10] [(3, ia a0), (10, .bool (decide (a0 = 12)))] (by kernel_rfl) ?_
  refine EL.done (by kernel_rfl) ?_
  refine EQ.code ?_
  refine EW.cdP (a0 = 12) (by kernel_rfl) (by kernel_rfl) (fun b0 => ?_) (fun b0 => ?_)
  ·rw [if_pos b0] at H
   refine EW.keep [3, 10] [(3, ia a0), (10, .bool (decide (a0 = 12)))] (by kernel_rfl) ?_
   refine EW.as' [(3, ia a0), (10, .bool (true))] (by simp only [dec_t b0, Bool.not_true, Bool.not_false]) ?_
   refine EW.skip (by kernel_rfl) ?_
   refine EQ.to ?_
   refine EQ.keep [3, 10] [(3, ia a0), (10, .bool (true))] (by kernel_rfl) ?_
   exact fun a ha => ⟨true, ha, (hS.re [] [] rfl (sub_self)), H⟩
  rw [if_neg b0] at H
  refine EW.rg (by kernel_rfl) ?_
  refine EL.quick 2 [3, 10] [(3, ia a0), (10, .bool (decide (a0 = 13)))] (by kernel_rfl) ?_
  refine EL.done (by kernel_rfl) ?_
  refine EQ.to ?_
  refine EQ.keep [3, 10] [(3, ia a0), (10, .bool (decide (a0 = 13)))] (by kernel_rfl) ?_
  exact fun a ha => ⟨decide (a0 = 13), ha, (hS.re [] [] rfl (sub_self)), H⟩
 obtain ⟨a5, ha, hS, H⟩ := hI
 rw [c7] at H
 (try dsimp only at H)
 refine EW.at ?_ a ha
 clear ha a
 refine EW.cdP' (a5) (by kernel_rfl) (by kernel_rfl) (fun c1 => ?_) (fun c1 => ?_)
 ·rw [if_pos c1] at H
  refine EW.sq (by kernel_rfl) ?_
  refine EW.rg (by kernel_rfl) ?_
  refine EL.quick 1 [2] [(2, ia 3)] (by kernel_rfl) ?_
  refine EL.done (by kernel_rfl) ?_
  refine EQ.code ?_
  refine EW.ret (by kernel_rfl) ?_
  refine EQ.ret ?_
  refine EQ.ret ?_
  obtain rfl := Option.some.inj H
  exact EQ.leave (ia 3) (by kernel_rfl) ⟨_, rfl, rfl, (hS.re [] [] rfl (sub_self))⟩
 rw [if_neg c1] at H
 obtain ⟨a2, c8, H⟩ := lt_out H
 refine EW.ct (fun a w => ∃ a6 : Bool, Sat 23 [(3, ia a0), (13, .bool (a6))] a ∧ St B w (os) (rs) ∧ a2 a6 = some a1) (by kernel_rfl) ?_ (fun a w hI => ?_)
 ·refine EW.sq (by kernel_rfl) ?_
  refine EW.rg (by kernel_rfl) ?_
  refine EL.quick 2 [3, 13] [(3, ia a0), (13, .bool (decide (a0 = 15)))] (by kernel_rfl) ?_
  refine EL.done (by kernel_rfl) ?_
  refine EQ.code ?_
  refine EW.cdP (a0 = 15) (by kernel_rfl) (by kernel_rfl) (fun b1 => ?_) (fun b1 => ?_)
  ·rw [if_pos b1] at H
   refine EW.keep [3, 13] [(3, ia a0), (13, .bool (decide (a0 = 15)))] (by kernel_rfl) ?_
   refine EW.as' [(3, ia a0), (13, .bool (true))] (by simp only [dec_t b1, Bool.not_true, Bool.not_false]) ?_
   refine EW.skip (by kernel_rfl) ?_
   refine EQ.to ?_
   refine EQ.keep [3, 13] [(3, ia a0), (13, .bool (true))] (by kernel_rfl) ?_
   exact fun a ha => ⟨true, ha, (hS.re [] [] rfl (sub_self)), H⟩
  rw [if_neg b1] at H
  refine EW.sq (by kernel_rfl) ?_
  refine EW.rg (by kernel_rfl) ?_
  refine EL.quick 2 [3, 13] [(3, ia a0), (13, .bool (decide (a0 = 16)))] (by kernel_rfl) ?_
  refine EL.done (by kernel_rfl) ?_
  refine EQ.code ?_
  refine EW.cdP (a0 = 16) (by kernel_rfl) (by kernel_rfl) (fun b2 => ?_) (fun b2 => ?_)
  ·rw [if_pos b2] at H
   refine EW.keep [3, 13] [(3, ia a0), (13, .bool (decide (a0 = 16)))] (by kernel_rfl) ?_
   refine EW.as' [(3, ia a0), (13, .bool (true))] (by simp only [dec_t b2, Bool.not_true, Bool.not_false]) ?_
   refine EW.skip (by kernel_rfl) ?_
   refine EQ.to ?_
   refine EQ.keep [3, 13] [(3, ia a0), (13, .bool (true))] (by kernel_rfl) ?_
   exact fun a ha => ⟨true, ha, (hS.re [] [] rfl (sub_self)), H⟩
  rw [if_neg b2] at H
  refine EW.sq (by kernel_rfl) ?_
  refine EW.rg (by kernel_rfl) ?_
  refine EL.quick 2 [3, 13] [(3, ia a0), (13, .bool (decide (a0 = 17)))] (by kernel_rfl) ?_
  refine EL.done (by kernel_rfl) ?_
  refine EQ.code ?_
  refine EW.cdP (a0 = 17) (by kernel_rfl) (by kernel_rfl) (fun b3 => ?_) (fun b3 => ?_)
  ·rw [if_pos b3] at H
   refine EW.keep [3, 13] [(3, ia a0), (13, .bool (decide (a0 = 17)))] (by kernel_rfl) ?_
   refine EW.as' [(3, ia a0), (13, .bool (true))] (by simp only [dec_t b3, Bool.not_true, Bool.not_false]) ?_
   refine EW.skip (by kernel_rfl) ?_
   refine EQ.to ?_
   refine EQ.keep [3, 13] [(3, ia a0), (13, .bool (true))] (by kernel_rfl) ?_
   exact fun a ha => ⟨true, ha, (hS.re [] [] rfl (sub_self)), H⟩
  rw [if_neg b3] at H
  refine EW.rg (by kernel_rfl) ?_
  refine EL.quick 2 [3, 13] [(3, ia a0), (13, .bool (decide (a0 = 22)))] (by kernel_rfl) ?_
  refine EL.done (by kernel_rfl) ?_
  refine EQ.to ?_
  refine EQ.keep [3, 13] [(3, ia a0), (13, .bool (decide (a0 = 22)))] (by kernel_rfl) ?_
  exact fun a ha => ⟨decide (a0 = 22), ha, (hS.re [] [] rfl (sub_self)), H⟩
 obtain ⟨a6, ha, hS, H⟩ := hI
 rw [c8] at H
 (try dsimp only at H)
 refine EW.at ?_ a ha
 clear ha a
 refine EW.cdP' (a6) (by kernel_rfl) (by kernel_rfl) (fun c2 => ?_) (fun c2 => ?_)
 ·rw [if_pos c2] at H
  refine EW.sq (by kernel_rfl) ?_
  refine EW.rg (by kernel_rfl) ?_
  refine EL.quick 1 [2] [(2, ia 4)] (by kernel_rfl) ?_
  refine EL.done (by kernel_rfl) ?_
  refine EQ.code ?_
  refine EW.ret (by kernel_rfl) ?_
  refine EQ.ret ?_
  refine EQ.ret ?_
  obtain rfl := Option.some.inj H
  exact EQ.leave (ia 4) (by kernel_rfl) ⟨_, rfl, rfl, (hS.re [] [] rfl (sub_self))⟩
 rw [if_neg c2] at H
 refine EW.sq (by kernel_rfl) ?_
 refine EW.rg (by kernel_rfl) ?_
 refine EL.quick 2 [3, 18] [(3, ia a0), (18, .bool (decide (a0 = 20)))] (by kernel_rfl) ?_
 refine EL.done (by kernel_rfl) ?_
 refine EQ.code ?_
 refine EW.cdP (a0 = 20) (by kernel_rfl) (by kernel_rfl) (fun c3 => ?_) (fun c3 => ?_)
 ·rw [if_pos c3] at H
  refine EW.sq (by kernel_rfl) ?_
  refine EW.rg (by kernel_rfl) ?_
  refine EL.quick 1 [2] [(2, ia 5)] (by kernel_rfl) ?_
  refine EL.done (by kernel_rfl) ?_
  refine EQ.code ?_
  refine EW.ret (by kernel_rfl) ?_
  refine EQ.ret ?_
  refine EQ.ret ?_
  obtain rfl := Option.some.inj H
  exact EQ.leave (ia 5) (by kernel_rfl) ⟨_, rfl, rfl, (hS.re [] [] rfl (sub_self))⟩
 rw [if_neg c3] at H
 obtain ⟨b8, c9, H⟩ := lt_out H
 refine EW.ct (fun a w => ∃ a7 : Bool, Sat 23 [(20, .bool (a7))] a ∧ St B w (os) (rs) ∧ b8 a7 = some a1) (by kernel_rfl) ?_ (fun a w hI => ?_)
 ·refine EW.sq (by kernel_rfl) ?_
  refine EW.rg (by kernel_rfl) ?_
  refine EL.quick 2 [3, 20] [(3, ia a0), (20, .bool (decide (a0 = 23)))] (by kernel_rfl) ?_
  refine EL.done (by kernel_rfl) ?_
  refine EQ.code ?_
  refine EW.cdP (a0 = 23) (by kernel_rfl) (by kernel_rfl) (fun b4 => ?_) (fun b4 => ?_)
  ·rw [if_pos b4] at H
   refine EW.keep [20] [(20, .bool (decide (a0 = 23)))] (by kernel_rfl) ?_
   refine EW.as' [(20, .bool (true))] (by simp only [dec_t b4, Bool.not_true, Bool.not_false]) ?_
   refine EW.skip (by kernel_rfl) ?_
   refine EQ.to ?_
   refine EQ.keep [20] [(20, .bool (true))] (by kernel_rfl) ?_
   exact fun a ha => ⟨true, ha, (hS.re [] [] rfl (sub_self)), H⟩
  rw [if_neg b4] at H
  refine EW.rg (by kernel_rfl) ?_
  refine EL.quick 2 [20] [(20, .bool (decide (a0 = 24)))] (by kernel_rfl) ?_
  refine EL.done (by kernel_rfl) ?_
  refine EQ.to ?_
  refine EQ.keep [20] [(20, .bool (decide (a0 = 24)))] (by kernel_rfl) ?_
  exact fun a ha => ⟨decide (a0 = 24), ha, (hS.re [] [] rfl (sub_self)), H⟩
 obtain ⟨a7, ha, hS, H⟩ := hI
 rw [c9] at H
 (try dsimp only at H)
 refine EW.at ?_ a ha
 clear ha a
 refine EW.cdP' (a7) (by kernel_rfl) (by kernel_rfl) (fun c4 => ?_) (fun c4 => ?_)
 ·rw [if_pos c4] at H
  refine EW.sq (by kernel_rfl) ?_
  refine EW.rg (by kernel_rfl) ?_
  refine EL.quick 1 [2] [(2, ia 6)] (by kernel_rfl) ?_
  refine EL.done (by kernel_rfl) ?_
  refine EQ.code ?_
  refine EW.ret (by kernel_rfl) ?_
  refine EQ.ret ?_
  refine EQ.ret ?_
  obtain rfl := Option.some.inj H
  exact EQ.leave (ia 6) (by kernel_rfl) ⟨_, rfl, rfl, (hS.re [] [] rfl (sub_self))⟩
 rw [if_neg c4] at H
 refine EW.skip (by kernel_rfl) ?_
 refine EQ.pop ?_
 refine EQ.code ?_
 refine EW.sq (by kernel_rfl) ?_
 refine EW.rg (by kernel_rfl) ?_
 refine EL.quick 1 [2] [(2, ia 0)] (by kernel_rfl) ?_
 refine EL.done (by kernel_rfl) ?_
 refine EQ.code ?_
 refine EW.ret (by kernel_rfl) ?_
 obtain rfl := Option.some.inj H
 exact EQ.leave (ia 0) (by kernel_rfl) ⟨_, rfl, rfl, (hS.re [] [] rfl (sub_self))⟩

/-! ### confidant/confidantref5.Known: function 58 -/
def confidantref5_Known.f (K : Nat) (a0 : Int) : Option Bool := if a0 ≥ 1 then (some (decide (a0 ≤ 26))) else (some false)
set_option maxRecDepth 100000 in
theorem confidantref5_Known.calls {K : Nat} {a0 : Int} {a2 : Bool} {B w : World} {os : List Ass} {rs : List Ro} (H : confidantref5_Known.f K a0 = some a2) (hS : St B w (os) (rs)) :
  Calls Tryz.prog 58 [ia a0].toArray w (fun en w' => ∃ v, en = .returned v ∧ v = .bool (a2) ∧ St B w' (os) (rs)) := by
 unfold confidantref5_Known.f at H
 refine calls_of_EW (args := [ia a0]) (c := Cd58) 9 Tryz.func58 (by kernel_rfl) (by kernel_rfl) (by kernel_rfl) ?_
 refine EW.sq (by kernel_rfl) ?_
 refine EW.rg (by kernel_rfl) ?_
 refine EL.quick 1 [0] [(0, ia a0)] (by kernel_rfl) ?_
 refine EL.done (by kernel_rfl) ?_
 refine EQ.code ?_
 refine EW.sq (by kernel_rfl) ?_
 refine EW.rg (by kernel_rfl) ?_
 refine EL.quick 3 [0, 5] [(0, ia a0), (5, .bool (decide (a0 ≥ 1)))] (by kernel_rfl) ?_
 by_cases a1 : a0 ≥ 1
 ·rw [if_pos a1] at H
  refine EL.keep [0, 5] [(0, ia a0), (5, .bool (decide (a0 ≥ 1)))] (by kernel_rfl) ?_
  refine EL.as' [(0, ia a0), (5, .bool (true))] (by simp only [dec_t a1, Bool.not_true, Bool.not_false]) ?_
  refine EL.quick 4 [2] [(2, .bool (decide (a0 ≤ 26)))] (by kernel_rfl) ?_
  refine EL.done (by kernel_rfl) ?_
  refine EQ.code ?_
  refine EW.ret (by kernel_rfl) ?_
  obtain rfl := Option.some.inj H
  exact EQ.leave (.bool (decide (a0 ≤ 26))) (by kernel_rfl) ⟨_, rfl, rfl, (hS.re [] [] rfl (sub_self))⟩
 rw [if_neg a1] at H
 refine EL.keep [0, 5] [(0, ia a0), (5, .bool (decide (a0 ≥ 1)))] (by kernel_rfl) ?_
 refine EL.as' [(0, ia a0), (5, .bool (false))] (by simp only [dec_f a1, Bool.not_true, Bool.not_false]) ?_
 refine EL.quick 4 [2] [(2, .bool (false))] (by kernel_rfl) ?_
 refine EL.done (by kernel_rfl) ?_
 refine EQ.code ?_
 refine EW.ret (by kernel_rfl) ?_
 obtain rfl := Option.some.inj H
 exact EQ.leave (.bool (false)) (by kernel_rfl) ⟨_, rfl, rfl, (hS.re [] [] rfl (sub_self))⟩

/-! ### confidant/confidantref5.Right: function 32 -/
def confidantref5_Right.f (K : Nat) (a2 : Int) (a0 : Int) : Option Bool := b1 (confidantref5_Arg.f K a2) fun (a3 : Int) => (if a3 = 0 then (b1 (confidantref5_Known.f K a2) fun (a4 : Bool) => (if a4 = true then (some (decide (a0 = 0))) else (some false))) else (if a3 = 1 then (some true) else (some (decide (a0 ≥ 0)))))
set_option maxRecDepth 100000 in
theorem confidantref5_Right.calls {K : Nat} {a2 : Int} {a0 : Int} {a8 : Bool} {B w : World} {os : List Ass} {rs : List Ro} (H : confidantref5_Right.f K a2 a0 = some a8) (hS : St B w (os) (rs)) :
  Calls Tryz.prog 32 [ag [ia a2, ib a0]].toArray w (fun en w' => ∃ v, en = .returned v ∧ v = .bool (a8) ∧ St B w' (os) (rs)) := by
 unfold confidantref5_Right.f at H
 refine calls_of_EW (args := [ag [ia a2, ib a0]]) (c := Cd32) 21 Tryz.func32 (by kernel_rfl) (by kernel_rfl) (by kernel_rfl) ?_
 refine EW.sq (by kernel_rfl) ?_
 refine EW.rg (by kernel_rfl) ?_
 refine EL.of (EO.box hS 59 (ag [ia a2, ib a0]) [ia a2, ib a0] 1 (by kernel_rfl) (by kernel_rfl) (by kernel_rfl) (by first | rfl | kernel_rfl) ?_)
 intro a1 w hS
 refine EL.quick 1 [1] [(1, pt a1 0)] (by kernel_rfl) ?_
 refine EL.done (by kernel_rfl) ?_
 refine EQ.code ?_
 refine EW.sq (by kernel_rfl) ?_
 refine EW.sq (by kernel_rfl) ?_
 refine EW.rg (by kernel_rfl) ?_
 refine EL.quick 1 [1, 3] [(1, pt a1 0), (3, pt a1 0)] (by kernel_rfl) ?_
 refine EL.of (EO.Y (YO.loadBox hS 0 rfl 3 0 1 (ia a2) 4 (by kernel_rfl) (by kernel_rfl) (by kernel_rfl) (by kernel_rfl)) ?_)
 obtain ⟨a3, a9, H⟩ := b1_out H
 have hq := confidantref5_Arg.calls a9 hS
 refine EL.of (EO.callD 47 [ia a2] _ 5 (by kernel_rfl) (by kernel_rfl) (by kernel_rfl) hq ?_)
 rintro v w ⟨rfl, hS⟩
 refine EL.done (by kernel_rfl) ?_
 refine EQ.code ?_
 refine EW.bl 0 (by kernel_rfl) ?_
 refine EW.sq (by kernel_rfl) ?_
 refine EW.rg (by kernel_rfl) ?_
 refine EL.quick 2 [1, 5, 6] [(1, pt a1 0), (5, ia a3), (6, .bool (decide (a3 = 0)))] (by kernel_rfl) ?_
 refine EL.done (by kernel_rfl) ?_
 refine EQ.code ?_
 refine EW.cdP (a3 = 0) (by kernel_rfl) (by kernel_rfl) (fun a6 => ?_) (fun a6 => ?_)
 ·rw [if_pos a6] at H
  refine EW.sq (by kernel_rfl) ?_
  refine EW.rg (by kernel_rfl) ?_
  refine EL.quick 1 [1, 8] [(1, pt a1 0), (8, pt a1 0)] (by kernel_rfl) ?_
  refine EL.of (EO.Y (YO.loadBox hS 0 rfl 3 0 1 (ia a2) 9 (by kernel_rfl) (by kernel_rfl) (by kernel_rfl) (by kernel_rfl)) ?_)
  obtain ⟨a4, b0, H⟩ := b1_out H
  have hq := confidantref5_Known.calls b0 hS
  refine EL.of (EO.callD 58 [ia a2] _ 10 (by kernel_rfl) (by kernel_rfl) (by kernel_rfl) hq ?_)
  rintro v w ⟨rfl, hS⟩
  refine EL.quick 1 [1, 11] [(1, pt a1 0), (11, .bool (a4))] (by kernel_rfl) ?_
  by_cases a5 : a4 = true
  ·rw [if_pos a5] at H
   refine EL.keep [1, 11] [(1, pt a1 0), (11, .bool (a4))] (by kernel_rfl) ?_
   refine EL.as' [(1, pt a1 0), (11, .bool (true))] (by simp only [a5, Bool.not_true, Bool.not_false]) ?_
   refine EL.quick 1 [11, 12] [(11, .bool (true)), (12, pt a1 1)] (by kernel_rfl) ?_
   refine EL.of (EO.Y (YO.loadBox hS 0 rfl 21 1 1 (ib a0) 13 (by kernel_rfl) (by kernel_rfl) (by kernel_rfl) (by kernel_rfl)) ?_)
   refine EL.quick 3 [2] [(2, .bool (decide (a0 = 0)))] (by kernel_rfl) ?_
   refine EL.done (by kernel_rfl) ?_
   refine EQ.code ?_
   refine EW.ret (by kernel_rfl) ?_
   refine EQ.ret ?_
   refine EQ.ret ?_
   obtain rfl := Option.some.inj H
   exact EQ.leave (.bool (decide (a0 = 0))) (by kernel_rfl) ⟨_, rfl, rfl, (hS.re [] [0] rfl (sub_self))⟩
  rw [if_neg a5] at H
  refine EL.keep [1, 11] [(1, pt a1 0), (11, .bool (a4))] (by kernel_rfl) ?_
  refine EL.as' [(1, pt a1 0), (11, .bool (false))] (by simp only [(Bool.eq_false_iff.2 a5), Bool.not_true, Bool.not_false]) ?_
  refine EL.quick 5 [2] [(2, .bool (false))] (by kernel_rfl) ?_
  refine EL.done (by kernel_rfl) ?_
  refine EQ.code ?_
  refine EW.ret (by kernel_rfl) ?_
  refine EQ.ret ?_
  refine EQ.ret ?_
  obtain rfl := Option.some.inj H
  exact EQ.leave (.bool (false)) (by kernel_rfl) ⟨_, rfl, rfl, (hS.re [] [0] rfl (sub_self))⟩
 rw [if_neg a6] at H
 refine EW.sq (by kernel_rfl) ?_
 refine EW.rg (by kernel_rfl) ?_
 refine EL.quick 2 [1, 16] [(1, pt a1 0), (16, .bool (decide (a3 = 1)))] (by kernel_rfl) ?_
 refine EL.done (by kernel_rfl) ?_
 refine EQ.code ?_
 refine EW.cdP (a3 = 1) (by kernel_rfl) (by kernel_rfl) (fun a7 => ?_) (fun a7 => ?_)
 ·rw [if_pos a7] at H
  refine EW.sq (by kernel_rfl) ?_
  refine EW.rg (by kernel_rfl) ?_
  refine EL.quick 1 [2] [(2, .bool (true))] (by kernel_rfl) ?_
  refine EL.done (by kernel_rfl) ?_
  refine EQ.code ?_
  refine EW.ret (by kernel_rfl) ?_
  refine EQ.ret ?_
  refine EQ.ret ?_
  obtain rfl := Option.some.inj H
  exact EQ.leave (.bool (true)) (by kernel_rfl) ⟨_, rfl, rfl, (hS.re [] [0] rfl (sub_self))⟩
 rw [if_neg a7] at H
 refine EW.skip (by kernel_rfl) ?_
 refine EQ.pop ?_
 refine EQ.code ?_
 refine EW.sq (by kernel_rfl) ?_
 refine EW.rg (by kernel_rfl) ?_
 refine EL.quick 1 [18] [(18, pt a1 1)] (by kernel_rfl) ?_
 refine EL.of (EO.Y (YO.loadBox hS 0 rfl 21 1 1 (ib a0) 19 (by kernel_rfl) (by kernel_rfl) (by kernel_rfl) (by kernel_rfl)) ?_)
 refine EL.quick 2 [2] [(2, .bool (decide (a0 ≥ 0)))] (by kernel_rfl) ?_
 refine EL.done (by kernel_rfl) ?_
 refine EQ.code ?_
 refine EW.ret (by kernel_rfl) ?_
 obtain rfl := Option.some.inj H
 exact EQ.leave (.bool (decide (a0 ≥ 0))) (by kernel_rfl) ⟨_, rfl, rfl, (hS.re [] [0] rfl (sub_self))⟩

/-! ### confidant/confidantref1.Int: function 59 -/
def confidantref1_Int.f (K : Nat) (a0 : Int) : Option Int := some (IntKind.u64.wrap (IntKind.u32.wrap a0))
set_option maxRecDepth 100000 in
theorem confidantref1_Int.calls {K : Nat} {a0 : Int} {a1 : Int} {B w : World} {os : List Ass} {rs : List Ro} (H : confidantref1_Int.f K a0 = some a1) (hS : St B w (os) (rs)) :
  Calls Tryz.prog 59 [ib a0].toArray w (fun en w' => ∃ v, en = .returned v ∧ v = ic a1 ∧ St B w' (os) (rs)) := by
 unfold confidantref1_Int.f at H
 refine calls_of_EW (args := [ib a0]) (c := Cd59) 6 Tryz.func59 (by kernel_rfl) (by kernel_rfl) (by kernel_rfl) ?_
 refine EW.sq (by kernel_rfl) ?_
 refine EW.rg (by kernel_rfl) ?_
 refine EL.quick 1 [0] [(0, ib a0)] (by kernel_rfl) ?_
 refine EL.done (by kernel_rfl) ?_
 refine EQ.code ?_
 refine EW.sq (by kernel_rfl) ?_
 refine EW.rg (by kernel_rfl) ?_
 refine EL.quick 4 [2] [(2, ic (IntKind.u64.wrap (IntKind.u32.wrap a0)))] (by kernel_rfl) ?_
 refine EL.done (by kernel_rfl) ?_
 refine EQ.code ?_
 refine EW.ret (by kernel_rfl) ?_
 obtain rfl := Option.some.inj H
 exact EQ.leave (ic (IntKind.u64.wrap (IntKind.u32.wrap a0))) (by kernel_rfl) ⟨_, rfl, rfl, (hS.re [] [] rfl (sub_self))⟩

/-! ### confidant/confidantref5.Put: function 33 -/
def confidantref5_Put.f (K : Nat) (a0 : Int) (a1 : Int) : Option (List Int) := b1 (confidantref5_Right.f K a0 a1) fun (a6 : Bool) => (if a6 = true then (b1 (confidantref5_Arg.f K a0) fun (a7 : Int) => (if a7 = 0 then (lt ([IntKind.u64.wrap a0] : List Int) fun a4 => (b1 (confidantref1_Put.f K a4) fun (a8 : List Int) => (some a8))) else (b1 (confidantref1_Int.f K a1) fun (a3 : Int) => (lt ([IntKind.u64.wrap a0, a3] : List Int) fun a5 => (b1 (confidantref1_Put.f K a5) fun (a9 : List Int) => (some a9)))))) else (some ([] : List Int)))
set_option maxRecDepth 100000 in
theorem confidantref5_Put.calls {K : Nat} {a0 : Int} {a1 : Int} {b7 : List Int} {B w : World} {os : List Ass} {rs : List Ro} (H : confidantref5_Put.f K a0 a1 = some b7) (hS : St B w (os) (rs)) :
  Calls Tryz.prog 33 [ag [ia a0, ib a1]].toArray w (fun en w' => ∃ v, en = .returned v ∧ ∃ b8 : Option Addr, ∃ b9 : Nat, v = sv b8 b9 b7 ∧ St B w' (Ass.own 5 (Kd.int .u8) b8 b9 b7 :: os) (rs)) := by
 unfold confidantref5_Put.f at H
 refine calls_of_EW (args := [ag [ia a0, ib a1]]) (c := Cd33) 25 Tryz.func33 (by kernel_rfl) (by kernel_rfl) (by kernel_rfl) ?_
 refine EW.sq (by kernel_rfl) ?_
 refine EW.rg (by kernel_rfl) ?_
 refine EL.of (EO.box hS 59 (ag [ia a0, ib a1]) [ia a0, ib a1] 1 (by kernel_rfl) (by kernel_rfl) (by kernel_rfl) (by first | rfl | kernel_rfl) ?_)
 intro a2 w hS
 refine EL.quick 1 [1] [(1, pt a2 0)] (by kernel_rfl) ?_
 refine EL.done (by kernel_rfl) ?_
 refine EQ.code ?_
 refine EW.sq (by kernel_rfl) ?_
 refine EW.bl 0 (by kernel_rfl) ?_
 refine EW.sq (by kernel_rfl) ?_
 refine EW.rg (by kernel_rfl) ?_
 refine EL.of (EO.Y (YO.loadBox hS 0 rfl 59 0 2 (ag [ia a0, ib a1]) 4 (by kernel_rfl) (by kernel_rfl) (by kernel_rfl) (by kernel_rfl)) ?_)
 obtain ⟨a6, c4, H⟩ := b1_out H
 have hq := confidantref5_Right.calls c4 hS
 refine EL.of (EO.callD 32 [ag [ia a0, ib a1]] _ 5 (by kernel_rfl) (by kernel_rfl) (by kernel_rfl) hq ?_)
 rintro v w ⟨rfl, hS⟩
 refine EL.quick 2 [1, 3] [(1, pt a2 0), (3, .bool (!(a6)))] (by kernel_rfl) ?_
 refine EL.done (by kernel_rfl) ?_
 refine EQ.code ?_
 refine EW.cdQ (b := !(a6)) (a6 = true) (false) (by kernel_rfl) (by kernel_rfl) ⟨fun h => (by rw [h] <;> rfl), fun h => (by rw [Bool.eq_false_iff.2 h] <;> rfl)⟩ (fun b5 => ?_) (fun b5 => ?_)
 ·rw [if_pos b5] at H
  refine EW.sq (by kernel_rfl) ?_
  refine EW.rg (by kernel_rfl) ?_
  refine EL.quick 1 [1, 8] [(1, pt a2 0), (8, pt a2 0)] (by kernel_rfl) ?_
  refine EL.of (EO.Y (YO.loadBox hS 0 rfl 3 0 1 (ia a0) 9 (by kernel_rfl) (by kernel_rfl) (by kernel_rfl) (by kernel_rfl)) ?_)
  obtain ⟨a7, c5, H⟩ := b1_out H
  have hq := confidantref5_Arg.calls c5 hS
  refine EL.of (EO.callD 47 [ia a0] _ 10 (by kernel_rfl) (by kernel_rfl) (by kernel_rfl) hq ?_)
  rintro v w ⟨rfl, hS⟩
  refine EL.quick 2 [1, 7] [(1, pt a2 0), (7, .bool (decide (a7 = 0)))] (by kernel_rfl) ?_
  refine EL.done (by kernel_rfl) ?_
  refine EQ.code ?_
  refine EW.cdP (a7 = 0) (by kernel_rfl) (by kernel_rfl) (fun b6 => ?_) (fun b6 => ?_)
  ·rw [if_pos b6] at H
   refine EW.sq (by kernel_rfl) ?_
   refine EW.rg (by kernel_rfl) ?_
   refine EL.quick 1 [12] [(12, pt a2 0)] (by kernel_rfl) ?_
   refine EL.of (EO.Y (YO.loadBox hS 0 rfl 3 0 1 (ia a0) 13 (by kernel_rfl) (by kernel_rfl) (by kernel_rfl) (by kernel_rfl)) ?_)
   refine EL.quick 1 [14] [(14, ic (IntKind.u64.wrap a0))] (by kernel_rfl) ?_
   obtain ⟨a4, c2, H⟩ := lt_out H
   refine EL.of (EO.lit hS (Kd.int .u64) 66 98 1 #[(0, ic (IntKind.u64.wrap a0))] [ic (IntKind.u64.wrap a0)] a4 15 (by kernel_rfl) (by kernel_rfl) (by kernel_rfl) (fun _ => (by kernel_rfl)) (by rw [c2]; rfl) (by kernel_rfl) (fun w G hr => (by rw [c2]; exact ⟨[ic (IntKind.u64.wrap a0)], [], rfl, rfl, rfl⟩)) ?_)
   intro c0 w hS
   have hS := St.fr hS 0 rfl
   have hS : St B _ (Ass.box 59 a2 [ia a0, ib a1] :: os) (Ro.sl (Kd.int .u64) (some ⟨c0, 0, none⟩) 1 a4 :: rs) := hS.re [] [] rfl (sub_cons 0 rfl (sub_tail (sub_self)))
   obtain ⟨a8, c6, H⟩ := b1_out H
   have hq := confidantref1_Put.calls c6 hS
   refine EL.of (EO.callD 31 [sv (some ⟨c0, 0, none⟩) 1 a4] _ 16 (by kernel_rfl) (by kernel_rfl) (by kernel_rfl) hq ?_)
   rintro v w ⟨b0, b3, rfl, hS⟩
   refine EL.quick 1 [2] [(2, sv b0 b3 a8)] (by kernel_rfl) ?_
   refine EL.done (by kernel_rfl) ?_
   refine EQ.code ?_
   refine EW.ret (by kernel_rfl) ?_
   refine EQ.ret ?_
   refine EQ.ret ?_
   obtain rfl := Option.some.inj H
   exact EQ.leave (sv b0 b3 a8) (by kernel_rfl) ⟨_, rfl, b0, b3, rfl, (hS.re [0] [1] rfl (sub_tail (sub_self)))⟩
  rw [if_neg b6] at H
  refine EW.skip (by kernel_rfl) ?_
  refine EQ.pop ?_
  refine EQ.code ?_
  refine EW.sq (by kernel_rfl) ?_
  obtain ⟨a3, c7, H⟩ := b1_out H
  obtain ⟨a5, c3, H⟩ := lt_out H
  obtain ⟨a9, c8, H⟩ := b1_out H
  have hS := hS.drew
  refine EW.dr (B := B) [Ass.box 59 a2 [ia a0, ib a1]] [] (by kernel_rfl) (by kernel_rfl) ?_
  have hN : Region.noSelect Cd33.r.r.l.ops = true := (by kernel_rfl)
  have hF : freeAll Cd33.r.r.l.ops = true := (by kernel_rfl)
  have hC : Core B [Ass.box 59 a2 [ia a0, ib a1]] [] _ := ⟨_, _, hS⟩
  refine ED.quick hN hF hC [0, 3] [17, 20] 7 [(17, pt a2 0), (20, pt a2 1)] (bm 9 9) (by kernel_rfl) (by kernel_rfl) ?_
  refine ED.Y hN hF hC 1 6 (bm 9 11) (by kernel_rfl) (by kernel_rfl) rfl (fun _ _ _ hS => YO.loadBox hS 0 rfl 3 0 1 (ia a0) 18 (by kernel_rfl) (by kernel_rfl) (by kernel_rfl) (by kernel_rfl)) ?_
  refine ED.quick hN hF hC [2] [19, 20] 5 [(19, ic (IntKind.u64.wrap a0)), (20, pt a2 1)] (bm 9 15) (by kernel_rfl) (by kernel_rfl) ?_
  refine ED.Y hN hF hC 4 4 (bm 9 31) (by kernel_rfl) (by kernel_rfl) rfl (fun _ _ _ hS => YO.loadBox hS 0 rfl 21 1 1 (ib a1) 21 (by kernel_rfl) (by kernel_rfl) (by kernel_rfl) (by kernel_rfl)) ?_
  have hq := confidantref1_Int.calls c7 hS
  refine ED.one 5 3 (bm 9 63) (by kernel_rfl) (by kernel_rfl) (by kernel_rfl) (EO.callD 59 [ib a1] _ 22 (by kernel_rfl) (by kernel_rfl) (by kernel_rfl) hq ?_)
  rintro v w ⟨rfl, hS⟩
  have hC := hC.again ⟨_, _, hS⟩
  refine ⟨hC, ?_⟩
  refine ED.one 6 2 (bm 9 127) (by kernel_rfl) (by kernel_rfl) (by kernel_rfl) (EO.lit hS (Kd.int .u64) 66 98 2 #[(0, ic (IntKind.u64.wrap a0)), (1, ic a3)] [ic (IntKind.u64.wrap a0), ic a3] a5 23 (by kernel_rfl) (by kernel_rfl) (by kernel_rfl) (fun _ => (by kernel_rfl)) (by rw [c3]; rfl) (by kernel_rfl) (fun w G hr => (by rw [c3]; exact ⟨[ic (IntKind.u64.wrap a0)], [ic a3], rfl, rfl, ⟨[ic a3], [], rfl, rfl, rfl⟩⟩)) ?_)
  intro c1 w hS
  have hC := hC.again ⟨_, _, hS.re [1] [] rfl sub_self⟩
  refine ⟨hC, ?_⟩
  have hS := St.fr hS 0 rfl
  have hS : St B _ (Ass.box 59 a2 [ia a0, ib a1] :: os) (Ro.sl (Kd.int .u64) (some ⟨c1, 0, none⟩) 2 a5 :: rs) := hS.re [] [] rfl (sub_cons 0 rfl (sub_tail (sub_self)))
  have hq := confidantref1_Put.calls c8 hS
  refine ED.one 7 1 (bm 9 255) (by kernel_rfl) (by kernel_rfl) (by kernel_rfl) (EO.callD 31 [sv (some ⟨c1, 0, none⟩) 2 a5] _ 24 (by kernel_rfl) (by kernel_rfl) (by kernel_rfl) hq ?_)
  rintro v w ⟨b2, b4, rfl, hS⟩
  have hC := hC.again ⟨_, _, hS.re [1] [] rfl sub_self⟩
  refine ⟨hC, ?_⟩
  refine ED.quick hN hF hC [8] [2] 0 [(2, sv b2 b4 a9)] (bm 9 511) (by kernel_rfl) (by kernel_rfl) ?_
  refine ED.done (by kernel_rfl) ?_
  refine EQ.code ?_
  refine EW.ret (by kernel_rfl) ?_
  obtain rfl := Option.some.inj H
  exact EQ.leave (sv b2 b4 a9) (by kernel_rfl) ⟨_, rfl, b2, b4, rfl, (hS.re [0] [1] rfl (sub_tail (sub_self)))⟩
 rw [if_neg b5] at H
 refine EW.sq (by kernel_rfl) ?_
 refine EW.rg (by kernel_rfl) ?_
 refine EL.quick 1 [2] [(2, sv none 0 ([] : List Int))] (by kernel_rfl) ?_
 refine EL.done (by kernel_rfl) ?_
 refine EQ.code ?_
 refine EW.ret (by kernel_rfl) ?_
 refine EQ.ret ?_
 refine EQ.ret ?_
 have hS := St.nilO hS 5 (Kd.int .u8)
 obtain rfl := Option.some.inj H
 exact EQ.leave (sv none 0 ([] : List Int)) (by kernel_rfl) ⟨_, rfl, none, 0, rfl, (hS.re [0] [1] rfl (sub_self))⟩

/-! ### confidant/confidantref5.ImagePut: function 12 -/
def confidantref5_ImagePut.l2 (K : Nat) (a0 : List (List S59)) (a1 : Int) (c4 : (List Int) → (List Int) → Option (List Int × Int)) (b2 : List Int) : Nat → (List Int) → Int → Option (List Int × Int)
 | 0, _, _ => none
 | n + 1, a7, a3 => if a3 < ((a0.getD a1.toNat []).length : Int) then (if 0 ≤ a3 then (b1 (confidantref5_Right.f K (((a0.getD a1.toNat []).getD a3.toNat zS59).f0) (((a0.getD a1.toNat []).getD a3.toNat zS59).f1)) fun (e0 : Bool) => (if e0 = true then (b1 (confidantref5_Put.f K (((a0.getD a1.toNat []).getD a3.toNat zS59).f0) (((a0.getD a1.toNat []).getD a3.toNat zS59).f1)) fun (e1 : List Int) => (if (a7.length + e1.length) * 1 ≤ 140737488355328 then (lt (a7 ++ e1) fun c1 => (confidantref5_ImagePut.l2 K a0 a1 c4 b2 n c1 (IntKind.i64.wrap (a3 + 1)))) else none)) else (some (([] : List Int), 24)))) else none) else (c4 b2 a7)
def confidantref5_ImagePut.l1 (K : Nat) (a0 : List (List S59)) : Nat → (List Int) → Int → Option (List Int × Int)
 | 0, _, _ => none
 | n + 1, a8, a1 => if a1 < (a0.length : Int) then (lt (fun (e4 : List Int) (b9 : List Int) => (confidantref5_ImagePut.l1 K a0 n b9 (IntKind.i64.wrap (a1 + 1)))) fun c4 => (if 0 ≤ a1 then (lt ([IntKind.u64.wrap ((a0.getD a1.toNat []).length : Int)] : List Int) fun d5 => (b1 (confidantref1_Put.f K d5) fun (b2 : List Int) => (if (a8.length + b2.length) * 1 ≤ 140737488355328 then (lt (a8 ++ b2) fun c0 => (confidantref5_ImagePut.l2 K a0 a1 c4 b2 K c0 0)) else none))) else none)) else (some (a8, 0))
def confidantref5_ImagePut.l0 (K : Nat) (a0 : List (List S59)) (c3 : Option (List Int × Int)) : Nat → Int → Option (List Int × Int)
 | 0, _ => none
 | n + 1, a6 => if a6 < (a0.length : Int) then (if 0 ≤ a6 then (if ((a0.getD a6.toNat []).length : Int) > 512 then (some (([] : List Int), 22)) else (confidantref5_ImagePut.l0 K a0 c3 n (IntKind.i64.wrap (a6 + 1)))) else none) else (c3)
def confidantref5_ImagePut.f (K : Nat) (a0 : List (List S59)) : Option (List Int × Int) := if (a0.length : Int) > 64 then (some (([] : List Int), 22)) else (lt (lt ([IntKind.u64.wrap (a0.length : Int)] : List Int) fun b8 => (b1 (confidantref1_Put.f K b8) fun (d6 : List Int) => (confidantref5_ImagePut.l1 K a0 K d6 0))) fun c3 => (confidantref5_ImagePut.l0 K a0 c3 K 0))
set_option maxRecDepth 100000 in
theorem confidantref5_ImagePut.calls {K : Nat} {a0 : List (List S59)} {a4 : Option Addr} {a2 : Nat} {c2 : List Int} {c5 : Int} {B w : World} {os : List Ass} {rs : List Ro} (H : confidantref5_ImagePut.f K a0 = some (c2, c5)) (hS : St B w (os) (Ro.sl (Kd.slice kS59) a4 a2 a0 :: rs)) :
  Calls Tryz.prog 12 [sv a4 a2 a0].toArray w (fun en w' => ∃ v, en = .returned v ∧ ∃ f4 : Option Addr, ∃ f8 : Nat, v = .tuple #[sv f4 f8 c2, ia c5] ∧ St B w' (Ass.own 5 (Kd.int .u8) f4 f8 c2 :: os) (Ro.sl (Kd.slice kS59) a4 a2 a0 :: rs)) := by
 unfold confidantref5_ImagePut.f at H
 refine calls_of_EW (args := [sv a4 a2 a0]) (c := Cd12) 73 Tryz.func12 (by kernel_rfl) (by kernel_rfl) (by kernel_rfl) ?_
 refine EW.sq (by kernel_rfl) ?_
 refine EW.rg (by kernel_rfl) ?_
 refine EL.quick 2 [0] [(0, sv a4 a2 a0)] (by kernel_rfl) ?_
 refine EL.done (by kernel_rfl) ?_
 refine EQ.code ?_
 refine EW.sq (by kernel_rfl) ?_
 refine EW.sq (by kernel_rfl) ?_
 refine EW.rg (by kernel_rfl) ?_
 refine EL.quick 3 [0, 10] [(0, sv a4 a2 a0), (10, .bool (decide ((a0.length : Int) > 64)))] (by kernel_rfl) ?_
 refine EL.done (by kernel_rfl) ?_
 refine EQ.code ?_
 refine EW.cdP ((a0.length : Int) > 64) (by kernel_rfl) (by kernel_rfl) (fun e8 => ?_) (fun e8 => ?_)
 ·rw [if_pos e8] at H
  refine EW.sq (by kernel_rfl) ?_
  refine EW.rg (by kernel_rfl) ?_
  refine EL.quick 2 [2, 3] [(2, sv none 0 ([] : List Int)), (3, ia 22)] (by kernel_rfl) ?_
  refine EL.done (by kernel_rfl) ?_
  refine EQ.code ?_
  refine EW.ret (by kernel_rfl) ?_
  refine EQ.ret ?_
  have hS := St.nilO hS 5 (Kd.int .u8)
  simp only [encS59, sv, Option.some.injEq, Prod.mk.injEq] at H
  obtain ⟨rfl, rfl⟩ := H
  exact EQ.leave (.tuple #[sv none 0 ([] : List Int), ia 22]) (by kernel_rfl) ⟨_, rfl, none, 0, rfl, (hS.re [0] [] rfl (sub_self))⟩
 rw [if_neg e8] at H
 refine EW.skip (by kernel_rfl) ?_
 refine EQ.code ?_
 obtain ⟨c3, i4, H⟩ := lt_out H
 refine EW.ct (fun a w => Sat 73 [(0, sv a4 a2 a0)] a ∧ St B w (os) (Ro.sl (Kd.slice kS59) a4 a2 a0 :: rs) ∧ c3 = some (c2, c5)) (by kernel_rfl) ?_ (fun a w hI => ?_)
 ·refine EW.sq (by kernel_rfl) ?_
  refine EW.rg (by kernel_rfl) ?_
  refine EL.quick 1 [0, 4] [(0, sv a4 a2 a0), (4, ia 0)] (by kernel_rfl) ?_
  refine EL.done (by kernel_rfl) ?_
  refine EQ.code ?_
  refine EW.bl 0 (by kernel_rfl) ?_
  refine EW.lp (fun n a w => ∃ a6 : Int, Sat 73 [(0, sv a4 a2 a0), (4, ia a6)] a ∧ St B w (os) (Ro.sl (Kd.slice kS59) a4 a2 a0 :: rs) ∧ confidantref5_ImagePut.l0 K a0 c3 n a6 = some (c2, c5)) K (by kernel_rfl) ?_ (fun n a w hI => ?_)
  ·refine EQ.keep [0, 4] [(0, sv a4 a2 a0), (4, ia 0)] (by kernel_rfl) ?_
   exact fun a ha => ⟨0, ha, (hS.re [] [] rfl (sub_cons 0 rfl (sub_tail (sub_self)))), H⟩
  obtain ⟨a6, ha, hS, H⟩ := hI
  obtain _ | n := n
  ·simp [confidantref5_ImagePut.l0] at H
  rw [confidantref5_ImagePut.l0.eq_2] at H
  refine EW.at ?_ a ha
  clear ha a
  refine EW.sq (by kernel_rfl) ?_
  refine EW.sq (by kernel_rfl) ?_
  refine EW.rg (by kernel_rfl) ?_
  refine EL.quick 4 [0, 4, 14] [(0, sv a4 a2 a0), (4, ia a6), (14, .bool (decide (a6 < (a0.length : Int))))] (by kernel_rfl) ?_
  refine EL.done (by kernel_rfl) ?_
  refine EQ.code ?_
  refine EW.cdP (a6 < (a0.length : Int)) (by kernel_rfl) (by kernel_rfl) (fun d3 => ?_) (fun d3 => ?_)
  ·rw [if_pos d3] at H
   refine EW.skip (by kernel_rfl) ?_
   refine EQ.code ?_
   refine EW.sq (by kernel_rfl) ?_
   refine EW.bl 1 (by kernel_rfl) ?_
   refine EW.sq (by kernel_rfl) ?_
   refine EW.rg (by kernel_rfl) ?_
   refine EL.quick 2 [0, 4, 17, 18] [(0, sv a4 a2 a0), (4, ia a6), (17, sv a4 a2 a0), (18, ia a6)] (by kernel_rfl) ?_
   obtain ⟨e9, H⟩ := ite_in H
   obtain ⟨d9, rfl⟩ := St.rd_some hS (Rd.ro 0 rfl) e9 d3
   refine EL.of (EO.Y (YO.idx 26 1 d9 a0.length a2 .i64 a6 19 (by kernel_rfl) (by kernel_rfl) (by kernel_rfl) (by kernel_rfl) e9 d3) ?_)
   refine EL.of (EO.loadSl hS kS59 d9 a2 a0 (Rd.ro 0 rfl) a6 e9 d3 56 20 (by kernel_rfl) (by kernel_rfl) (by kernel_rfl) (by kernel_rfl) ?_)
   intro i8 j0 hS
   refine EL.quick 2 [0, 4, 22] [(0, sv (some d9) a2 a0), (4, ia a6), (22, .bool (decide (((a0.getD a6.toNat []).length : Int) > 512)))] (by kernel_rfl) ?_
   refine EL.done (by kernel_rfl) ?_
   refine EQ.code ?_
   refine EW.cdP (((a0.getD a6.toNat []).length : Int) > 512) (by kernel_rfl) (by kernel_rfl) (fun f2 => ?_) (fun f2 => ?_)
   ·rw [if_pos f2] at H
    refine EW.sq (by kernel_rfl) ?_
    refine EW.rg (by kernel_rfl) ?_
    refine EL.quick 2 [2, 3] [(2, sv none 0 ([] : List Int)), (3, ia 22)] (by kernel_rfl) ?_
    refine EL.done (by kernel_rfl) ?_
    refine EQ.code ?_
    refine EW.ret (by kernel_rfl) ?_
    refine EQ.ret ?_
    refine EQ.ret ?_
    refine EQ.ret ?_
    refine EQ.ret ?_
    refine EQ.ret ?_
    have hS := St.nilO hS 5 (Kd.int .u8)
    simp only [encS59, sv, Option.some.injEq, Prod.mk.injEq] at H
    obtain ⟨rfl, rfl⟩ := H
    exact EQ.leave (.tuple #[sv none 0 ([] : List Int), ia 22]) (by kernel_rfl) ⟨_, rfl, none, 0, rfl, (hS.re [0] [] rfl (sub_tail (sub_self)))⟩
   rw [if_neg f2] at H
   refine EW.skip (by kernel_rfl) ?_
   refine EQ.pop ?_
   refine EQ.code ?_
   refine EW.rg (by kernel_rfl) ?_
   refine EL.quick 3 [0, 4] [(0, sv (some d9) a2 a0), (4, ia (IntKind.i64.wrap (a6 + 1)))] (by kernel_rfl) ?_
   refine EL.done (by kernel_rfl) ?_
   refine EQ.to ?_
   refine EQ.keep [0, 4] [(0, sv (some d9) a2 a0), (4, ia (IntKind.i64.wrap (a6 + 1)))] (by kernel_rfl) ?_
   exact fun a ha => ⟨n, Nat.lt_succ_self n, IntKind.i64.wrap (a6 + 1), ha, (hS.re [] [] rfl (sub_cons 1 rfl (sub_tail (sub_tail (sub_self))))), H⟩
  rw [if_neg d3] at H
  refine EW.exit (id := 0) (by kernel_rfl) ?_
  refine EQ.exitCode ?_
  refine EQ.exitTo ?_
  refine EQ.exitHere ?_
  refine EQ.to ?_
  refine EQ.keep [0] [(0, sv a4 a2 a0)] (by kernel_rfl) ?_
  exact fun a ha => ⟨ha, (hS.re [] [] rfl (sub_cons 0 rfl (sub_tail (sub_self)))), H⟩
 obtain ⟨ha, hS, H⟩ := hI
 rw [i4] at H
 (try dsimp only at H)
 refine EW.at ?_ a ha
 clear ha a
 refine EW.sq (by kernel_rfl) ?_
 refine EW.rg (by kernel_rfl) ?_
 refine EL.quick 3 [0, 25] [(0, sv a4 a2 a0), (25, ic (IntKind.u64.wrap (a0.length : Int)))] (by kernel_rfl) ?_
 obtain ⟨b8, g4, H⟩ := lt_out H
 refine EL.of (EO.lit hS (Kd.int .u64) 66 98 1 #[(0, ic (IntKind.u64.wrap (a0.length : Int)))] [ic (IntKind.u64.wrap (a0.length : Int))] b8 26 (by kernel_rfl) (by kernel_rfl) (by kernel_rfl) (fun _ => (by kernel_rfl)) (by rw [g4]; rfl) (by kernel_rfl) (fun w G hr => (by rw [g4]; exact ⟨[ic (IntKind.u64.wrap (a0.length : Int))], [], rfl, rfl, rfl⟩)) ?_)
 intro d2 w hS
 have hS := St.fr hS 0 rfl
 have hS : St B _ (os) (Ro.sl (Kd.int .u64) (some ⟨d2, 0, none⟩) 1 b8 :: Ro.sl (Kd.slice kS59) a4 a2 a0 :: rs) := hS.re [] [] rfl (sub_cons 0 rfl (sub_tail (sub_self)))
 obtain ⟨d6, i0, H⟩ := b1_out H
 have hq := confidantref1_Put.calls i0 hS
 refine EL.of (EO.callD 31 [sv (some ⟨d2, 0, none⟩) 1 b8] _ 27 (by kernel_rfl) (by kernel_rfl) (by kernel_rfl) hq ?_)
 rintro v w ⟨e2, e3, rfl, hS⟩
 refine EL.quick 1 [0, 5] [(0, sv a4 a2 a0), (5, sv e2 e3 d6)] (by kernel_rfl) ?_
 refine EL.done (by kernel_rfl) ?_
 refine EQ.code ?_
 refine EW.sq (by kernel_rfl) ?_
 refine EW.sq (by kernel_rfl) ?_
 refine EW.rg (by kernel_rfl) ?_
 refine EL.quick 1 [0, 5, 6] [(0, sv a4 a2 a0), (5, sv e2 e3 d6), (6, ia 0)] (by kernel_rfl) ?_
 refine EL.done (by kernel_rfl) ?_
 refine EQ.code ?_
 refine EW.bl 2 (by kernel_rfl) ?_
 refine EW.lp (fun n a w => ∃ a8 : List Int, ∃ a1 : Int, ∃ b4 : Option Addr, ∃ b5 : Nat, Sat 73 [(0, sv a4 a2 a0), (5, sv b4 b5 a8), (6, ia a1)] a ∧ St B w (Ass.own 5 (Kd.int .u8) b4 b5 a8 :: os) (Ro.sl (Kd.int .u64) (some ⟨d2, 0, none⟩) 1 b8 :: Ro.sl (Kd.slice kS59) a4 a2 a0 :: rs) ∧ confidantref5_ImagePut.l1 K a0 n a8 a1 = some (c2, c5)) K (by kernel_rfl) ?_ (fun n a w hI => ?_)
 ·refine EQ.keep [0, 5, 6] [(0, sv a4 a2 a0), (5, sv e2 e3 d6), (6, ia 0)] (by kernel_rfl) ?_
  exact fun a ha => ⟨d6, 0, e2, e3, ha, (hS.re [0] [] rfl (sub_cons 0 rfl (sub_cons 1 rfl (sub_tail (sub_tail (sub_self)))))), H⟩
 obtain ⟨a8, a1, b4, b5, ha, hS, H⟩ := hI
 obtain _ | n := n
 ·simp [confidantref5_ImagePut.l1] at H
 rw [confidantref5_ImagePut.l1.eq_2] at H
 refine EW.at ?_ a ha
 clear ha a
 refine EW.sq (by kernel_rfl) ?_
 refine EW.sq (by kernel_rfl) ?_
 refine EW.rg (by kernel_rfl) ?_
 refine EL.quick 4 [0, 5, 6, 31] [(0, sv a4 a2 a0), (5, sv b4 b5 a8), (6, ia a1), (31, .bool (decide (a1 < (a0.length : Int))))] (by kernel_rfl) ?_
 refine EL.done (by kernel_rfl) ?_
 refine EQ.code ?_
 refine EW.cdP (a1 < (a0.length : Int)) (by kernel_rfl) (by kernel_rfl) (fun b3 => ?_) (fun b3 => ?_)
 ·rw [if_pos b3] at H
  refine EW.skip (by kernel_rfl) ?_
  refine EQ.code ?_
  obtain ⟨c4, i5, H⟩ := lt_out H
  refine EW.ct (fun a w => ∃ e4 : List Int, ∃ b9 : List Int, ∃ f5 : Option Addr, ∃ f9 : Nat, ∃ c6 : Option Addr, ∃ c9 : Nat, Sat 73 [(0, sv a4 a2 a0), (5, sv c6 c9 b9), (6, ia a1)] a ∧ St B w (Ass.own 5 (Kd.int .u8) f5 f9 e4 :: Ass.own 5 (Kd.int .u8) c6 c9 b9 :: os) (Ro.sl (Kd.int .u64) (some ⟨d2, 0, none⟩) 1 b8 :: Ro.sl (Kd.slice kS59) a4 a2 a0 :: rs) ∧ c4 e4 b9 = some (c2, c5)) (by kernel_rfl) ?_ (fun a w hI => ?_)
  ·refine EW.bl 3 (by kernel_rfl) ?_
   refine EW.sq (by kernel_rfl) ?_
   refine EW.rg (by kernel_rfl) ?_
   refine EL.quick 3 [0, 6, 34, 35, 36] [(0, sv a4 a2 a0), (6, ia a1), (34, sv b4 b5 a8), (35, sv a4 a2 a0), (36, ia a1)] (by kernel_rfl) ?_
   obtain ⟨b6, H⟩ := ite_in H
   obtain ⟨a5, rfl⟩ := St.rd_some hS (Rd.ro 1 rfl) b6 b3
   refine EL.of (EO.Y (YO.idx 26 1 a5 a0.length a2 .i64 a1 37 (by kernel_rfl) (by kernel_rfl) (by kernel_rfl) (by kernel_rfl) b6 b3) ?_)
   refine EL.of (EO.loadSl hS kS59 a5 a2 a0 (Rd.ro 1 rfl) a1 b6 b3 56 38 (by kernel_rfl) (by kernel_rfl) (by kernel_rfl) (by kernel_rfl) ?_)
   intro f6 g0 hS
   refine EL.quick 2 [0, 6, 34, 40] [(0, sv (some a5) a2 a0), (6, ia a1), (34, sv b4 b5 a8), (40, ic (IntKind.u64.wrap ((a0.getD a1.toNat []).length : Int)))] (by kernel_rfl) ?_
   obtain ⟨d5, g5, H⟩ := lt_out H
   refine EL.of (EO.lit hS (Kd.int .u64) 66 98 1 #[(0, ic (IntKind.u64.wrap ((a0.getD a1.toNat []).length : Int)))] [ic (IntKind.u64.wrap ((a0.getD a1.toNat []).length : Int))] d5 41 (by kernel_rfl) (by kernel_rfl) (by kernel_rfl) (fun _ => (by kernel_rfl)) (by rw [g5]; rfl) (by kernel_rfl) (fun w G hr => (by rw [g5]; exact ⟨[ic (IntKind.u64.wrap ((a0.getD a1.toNat []).length : Int))], [], rfl, rfl, rfl⟩)) ?_)
   intro e7 w hS
   have hS := St.fr hS 0 rfl
   have hS : St B _ (Ass.own 5 (Kd.int .u8) b4 b5 a8 :: os) (Ro.sl (Kd.int .u64) (some ⟨e7, 0, none⟩) 1 d5 :: Ro.sl kS59 f6 g0 (a0.getD a1.toNat []) :: Ro.sl (Kd.int .u64) (some ⟨d2, 0, none⟩) 1 b8 :: Ro.sl (Kd.slice kS59) (some a5) a2 a0 :: rs) := hS.re [] [] rfl (sub_cons 0 rfl (sub_tail (sub_self)))
   obtain ⟨b2, i1, H⟩ := b1_out H
   have hq := confidantref1_Put.calls i1 hS
   refine EL.of (EO.callD 31 [sv (some ⟨e7, 0, none⟩) 1 d5] _ 42 (by kernel_rfl) (by kernel_rfl) (by kernel_rfl) hq ?_)
   rintro v w ⟨d7, d8, rfl, hS⟩
   obtain ⟨g8, H⟩ := ite_in H
   obtain ⟨c0, i6, H⟩ := lt_out H
   refine EL.of (EO.append hS 22 22 5 1 1 (Kd.int .u8) b4 b5 a8 rfl d7 d8 b2 (Rd.own 0 5 rfl) c0 i6 (fun c7 d0 => Ass.own 5 (Kd.int .u8) d7 d8 b2 :: Ass.own 5 (Kd.int .u8) c7 d0 c0 :: os) 43 (by kernel_rfl) (by kernel_rfl) (by kernel_rfl) (by kernel_rfl) g8 (fun _ _ => rfl) ?_)
   intro c7 d0 w hS
   refine EL.quick 1 [0, 5, 6] [(0, sv (some a5) a2 a0), (5, sv c7 d0 c0), (6, ia a1)] (by kernel_rfl) ?_
   refine EL.done (by kernel_rfl) ?_
   refine EQ.code ?_
   refine EW.sq (by kernel_rfl) ?_
   refine EW.rg (by kernel_rfl) ?_
   refine EL.quick 1 [0, 5, 6, 7] [(0, sv (some a5) a2 a0), (5, sv c7 d0 c0), (6, ia a1), (7, ia 0)] (by kernel_rfl) ?_
   refine EL.done (by kernel_rfl) ?_
   refine EQ.code ?_
   refine EW.bl 4 (by kernel_rfl) ?_
   refine EW.lp (fun n a w => ∃ a7 : List Int, ∃ a3 : Int, ∃ a9 : Option Addr, ∃ b0 : Nat, Sat 73 [(0, sv (some a5) a2 a0), (5, sv a9 b0 a7), (6, ia a1), (7, ia a3)] a ∧ St B w (Ass.own 5 (Kd.int .u8) d7 d8 b2 :: Ass.own 5 (Kd.int .u8) a9 b0 a7 :: os) (Ro.sl (Kd.int .u64) (some ⟨e7, 0, none⟩) 1 d5 :: Ro.sl kS59 f6 g0 (a0.getD a1.toNat []) :: Ro.sl (Kd.int .u64) (some ⟨d2, 0, none⟩) 1 b8 :: Ro.sl (Kd.slice kS59) (some a5) a2 a0 :: rs) ∧ confidantref5_ImagePut.l2 K a0 a1 c4 b2 n a7 a3 = some (c2, c5)) K (by kernel_rfl) ?_ (fun n a w hI => ?_)
   ·refine EQ.keep [0, 5, 6, 7] [(0, sv (some a5) a2 a0), (5, sv c7 d0 c0), (6, ia a1), (7, ia 0)] (by kernel_rfl) ?_
    exact fun a ha => ⟨c0, 0, c7, d0, ha, (hS.re [1, 1] [] rfl (sub_cons 0 rfl (sub_cons 1 rfl (sub_cons 2 rfl (sub_cons 3 rfl (sub_tail (sub_tail (sub_tail (sub_tail (sub_self)))))))))), H⟩
   obtain ⟨a7, a3, a9, b0, ha, hS, H⟩ := hI
   obtain _ | n := n
   ·simp [confidantref5_ImagePut.l2] at H
   rw [confidantref5_ImagePut.l2.eq_2] at H
   refine EW.at ?_ a ha
   clear ha a
   refine EW.sq (by kernel_rfl) ?_
   refine EW.sq (by kernel_rfl) ?_
   refine EW.rg (by kernel_rfl) ?_
   refine EL.quick 3 [0, 5, 6, 7, 44, 45, 46] [(0, sv (some a5) a2 a0), (5, sv a9 b0 a7), (6, ia a1), (7, ia a3), (44, ia a3), (45, sv (some a5) a2 a0), (46, ia a1)] (by kernel_rfl) ?_
   refine EL.of (EO.Y (YO.idx 26 1 a5 a0.length a2 .i64 a1 47 (by kernel_rfl) (by kernel_rfl) (by kernel_rfl) (by kernel_rfl) b6 b3) ?_)
   refine EL.of (EO.loadSl hS kS59 a5 a2 a0 (Rd.ro 3 rfl) a1 b6 b3 56 48 (by kernel_rfl) (by kernel_rfl) (by kernel_rfl) (by kernel_rfl) ?_)
   intro i9 j1 hS
   refine EL.quick 2 [0, 5, 6, 7, 50] [(0, sv (some a5) a2 a0), (5, sv a9 b0 a7), (6, ia a1), (7, ia a3), (50, .bool (decide (a3 < ((a0.getD a1.toNat []).length : Int))))] (by kernel_rfl) ?_
   refine EL.done (by kernel_rfl) ?_
   refine EQ.code ?_
   refine EW.cdP (a3 < ((a0.getD a1.toNat []).length : Int)) (by kernel_rfl) (by kernel_rfl) (fun b7 => ?_) (fun b7 => ?_)
   ·rw [if_pos b7] at H
    refine EW.skip (by kernel_rfl) ?_
    refine EQ.code ?_
    refine EW.sq (by kernel_rfl) ?_
    refine EW.bl 5 (by kernel_rfl) ?_
    refine EW.sq (by kernel_rfl) ?_
    refine EW.sq (by kernel_rfl) ?_
    refine EW.rg (by kernel_rfl) ?_
    refine EL.quick 2 [0, 5, 6, 7, 53, 54] [(0, sv (some a5) a2 a0), (5, sv a9 b0 a7), (6, ia a1), (7, ia a3), (53, sv (some a5) a2 a0), (54, ia a1)] (by kernel_rfl) ?_
    refine EL.of (EO.Y (YO.idx 26 1 a5 a0.length a2 .i64 a1 55 (by kernel_rfl) (by kernel_rfl) (by kernel_rfl) (by kernel_rfl) b6 b3) ?_)
    refine EL.of (EO.loadSl hS kS59 a5 a2 a0 (Rd.ro 4 rfl) a1 b6 b3 56 56 (by kernel_rfl) (by kernel_rfl) (by kernel_rfl) (by kernel_rfl) ?_)
    intro g6 e5 hS
    refine EL.quick 1 [0, 5, 6, 7, 56, 57] [(0, sv (some a5) a2 a0), (5, sv a9 b0 a7), (6, ia a1), (7, ia a3), (56, sv g6 e5 (a0.getD a1.toNat [])), (57, ia a3)] (by kernel_rfl) ?_
    obtain ⟨d4, H⟩ := ite_in H
    obtain ⟨g2, rfl⟩ := St.rd_some hS (Rd.ro 0 rfl) d4 b7
    refine EL.of (EO.Y (YO.idx 56 2 g2 (a0.getD a1.toNat []).length e5 .i64 a3 58 (by kernel_rfl) (by kernel_rfl) (by kernel_rfl) (by kernel_rfl) d4 b7) ?_)
    refine EL.of (EO.Y (YO.loadEl hS kS59 g2 e5 (a0.getD a1.toNat []) (Rd.ro 0 rfl) zS59 encS59 encS59_of a3 d4 b7 59 2 0 2 rfl (ag [ia (((a0.getD a1.toNat []).getD a3.toNat zS59).f0), ib (((a0.getD a1.toNat []).getD a3.toNat zS59).f1)]) 59 (by kernel_rfl) (by kernel_rfl) (by kernel_rfl) (by kernel_rfl)) ?_)
    obtain ⟨e0, i2, H⟩ := b1_out H
    have hq := confidantref5_Right.calls i2 hS
    refine EL.of (EO.callD 32 [ag [ia (((a0.getD a1.toNat []).getD a3.toNat zS59).f0), ib (((a0.getD a1.toNat []).getD a3.toNat zS59).f1)]] _ 60 (by kernel_rfl) (by kernel_rfl) (by kernel_rfl) hq ?_)
    rintro v w ⟨rfl, hS⟩
    refine EL.quick 1 [0, 5, 6, 7, 61] [(0, sv (some a5) a2 a0), (5, sv a9 b0 a7), (6, ia a1), (7, ia a3), (61, .bool (!(e0)))] (by kernel_rfl) ?_
    refine EL.done (by kernel_rfl) ?_
    refine EQ.code ?_
    refine EW.cdQ (b := !(e0)) (e0 = true) (false) (by kernel_rfl) (by kernel_rfl) ⟨fun h => (by rw [h] <;> rfl), fun h => (by rw [Bool.eq_false_iff.2 h] <;> rfl)⟩ (fun f3 => ?_) (fun f3 => ?_)
    ·rw [if_pos f3] at H
     refine EW.skip (by kernel_rfl) ?_
     refine EQ.code ?_
     refine EW.rg (by kernel_rfl) ?_
     refine EL.quick 3 [0, 6, 7, 62, 63, 64] [(0, sv (some a5) a2 a0), (6, ia a1), (7, ia a3), (62, sv a9 b0 a7), (63, sv (some a5) a2 a0), (64, ia a1)] (by kernel_rfl) ?_
     refine EL.of (EO.Y (YO.idx 26 1 a5 a0.length a2 .i64 a1 65 (by kernel_rfl) (by kernel_rfl) (by kernel_rfl) (by kernel_rfl) b6 b3) ?_)
     refine EL.of (EO.loadSl hS kS59 a5 a2 a0 (Rd.ro 5 rfl) a1 b6 b3 56 66 (by kernel_rfl) (by kernel_rfl) (by kernel_rfl) (by kernel_rfl) ?_)
     intro g7 e6 hS
     refine EL.quick 1 [0, 6, 7, 62, 66, 67] [(0, sv (some a5) a2 a0), (6, ia a1), (7, ia a3), (62, sv a9 b0 a7), (66, sv g7 e6 (a0.getD a1.toNat [])), (67, ia a3)] (by kernel_rfl) ?_
     obtain ⟨g3, rfl⟩ := St.rd_some hS (Rd.ro 0 rfl) d4 b7
     refine EL.of (EO.Y (YO.idx 56 2 g3 (a0.getD a1.toNat []).length e6 .i64 a3 68 (by kernel_rfl) (by kernel_rfl) (by kernel_rfl) (by kernel_rfl) d4 b7) ?_)
     refine EL.of (EO.Y (YO.loadEl hS kS59 g3 e6 (a0.getD a1.toNat []) (Rd.ro 0 rfl) zS59 encS59 encS59_of a3 d4 b7 59 2 0 2 rfl (ag [ia (((a0.getD a1.toNat []).getD a3.toNat zS59).f0), ib (((a0.getD a1.toNat []).getD a3.toNat zS59).f1)]) 69 (by kernel_rfl) (by kernel_rfl) (by kernel_rfl) (by kernel_rfl)) ?_)
     obtain ⟨e1, i3, H⟩ := b1_out H
     have hq := confidantref5_Put.calls i3 hS
     refine EL.of (EO.callD 33 [ag [ia (((a0.getD a1.toNat []).getD a3.toNat zS59).f0), ib (((a0.getD a1.toNat []).getD a3.toNat zS59).f1)]] _ 70 (by kernel_rfl) (by kernel_rfl) (by kernel_rfl) hq ?_)
     rintro v w ⟨f7, g1, rfl, hS⟩
     obtain ⟨g9, H⟩ := ite_in H
     obtain ⟨c1, i7, H⟩ := lt_out H
     refine EL.of (EO.append hS 22 22 5 1 2 (Kd.int .u8) a9 b0 a7 rfl f7 g1 e1 (Rd.own 0 5 rfl) c1 i7 (fun c8 d1 => Ass.own 5 (Kd.int .u8) f7 g1 e1 :: Ass.own 5 (Kd.int .u8) d7 d8 b2 :: Ass.own 5 (Kd.int .u8) c8 d1 c1 :: os) 71 (by kernel_rfl) (by kernel_rfl) (by kernel_rfl) (by kernel_rfl) g9 (fun _ _ => rfl) ?_)
     intro c8 d1 w hS
     refine EL.quick 1 [0, 5, 6, 7] [(0, sv (some a5) a2 a0), (5, sv c8 d1 c1), (6, ia a1), (7, ia a3)] (by kernel_rfl) ?_
     refine EL.done (by kernel_rfl) ?_
     refine EQ.pop ?_
     refine EQ.code ?_
     refine EW.rg (by kernel_rfl) ?_
     refine EL.quick 3 [0, 5, 6, 7] [(0, sv (some a5) a2 a0), (5, sv c8 d1 c1), (6, ia a1), (7, ia (IntKind.i64.wrap (a3 + 1)))] (by kernel_rfl) ?_
     refine EL.done (by kernel_rfl) ?_
     refine EQ.to ?_
     refine EQ.keep [0, 5, 6, 7] [(0, sv (some a5) a2 a0), (5, sv c8 d1 c1), (6, ia a1), (7, ia (IntKind.i64.wrap (a3 + 1)))] (by kernel_rfl) ?_
     exact fun a ha => ⟨n, Nat.lt_succ_self n, c1, IntKind.i64.wrap (a3 + 1), c8, d1, ha, (hS.re [2, 2] [2] rfl (sub_cons 3 rfl (sub_cons 4 rfl (sub_cons 5 rfl (sub_cons 6 rfl (sub_tail (sub_tail (sub_tail (sub_tail (sub_tail (sub_tail (sub_tail (sub_self))))))))))))), H⟩
    rw [if_neg f3] at H
    refine EW.sq (by kernel_rfl) ?_
    refine EW.rg (by kernel_rfl) ?_
    refine EL.quick 2 [2, 3] [(2, sv none 0 ([] : List Int)), (3, ia 24)] (by kernel_rfl) ?_
    refine EL.done (by kernel_rfl) ?_
    refine EQ.code ?_
    refine EW.ret (by kernel_rfl) ?_
    refine EQ.ret ?_
    refine EQ.ret ?_
    refine EQ.ret ?_
    refine EQ.ret ?_
    refine EQ.ret ?_
    refine EQ.ret ?_
    refine EQ.ret ?_
    refine EQ.ret ?_
    refine EQ.ret ?_
    refine EQ.ret ?_
    have hS := St.nilO hS 5 (Kd.int .u8)
    simp only [encS59, sv, Option.some.injEq, Prod.mk.injEq] at H
    obtain ⟨rfl, rfl⟩ := H
    exact EQ.leave (.tuple #[sv none 0 ([] : List Int), ia 24]) (by kernel_rfl) ⟨_, rfl, none, 0, rfl, (hS.re [0] [1, 1] rfl (sub_tail (sub_tail (sub_tail (sub_tail (sub_tail (sub_self)))))))⟩
   rw [if_neg b7] at H
   refine EW.exit (id := 4) (by kernel_rfl) ?_
   refine EQ.exitCode ?_
   refine EQ.exitTo ?_
   refine EQ.exitHere ?_
   refine EQ.pop ?_
   refine EQ.to ?_
   refine EQ.keep [0, 5, 6] [(0, sv (some a5) a2 a0), (5, sv a9 b0 a7), (6, ia a1)] (by kernel_rfl) ?_
   exact fun a ha => ⟨b2, a7, d7, d8, a9, b0, ha, (hS.re [1, 1] [] rfl (sub_cons 3 rfl (sub_cons 4 rfl (sub_tail (sub_tail (sub_tail (sub_tail (sub_tail (sub_self))))))))), H⟩
  obtain ⟨e4, b9, f5, f9, c6, c9, ha, hS, H⟩ := hI
  rw [i5] at H
  (try dsimp only at H)
  refine EW.at ?_ a ha
  clear ha a
  refine EW.rg (by kernel_rfl) ?_
  refine EL.quick 3 [0, 5, 6] [(0, sv a4 a2 a0), (5, sv c6 c9 b9), (6, ia (IntKind.i64.wrap (a1 + 1)))] (by kernel_rfl) ?_
  refine EL.done (by kernel_rfl) ?_
  refine EQ.to ?_
  refine EQ.keep [0, 5, 6] [(0, sv a4 a2 a0), (5, sv c6 c9 b9), (6, ia (IntKind.i64.wrap (a1 + 1)))] (by kernel_rfl) ?_
  exact fun a ha => ⟨n, Nat.lt_succ_self n, b9, IntKind.i64.wrap (a1 + 1), c6, c9, ha, (hS.re [1] [1] rfl (sub_cons 0 rfl (sub_cons 1 rfl (sub_tail (sub_tail (sub_self)))))), H⟩
 rw [if_neg b3] at H
 refine EW.exit (id := 2) (by kernel_rfl) ?_
 refine EQ.exitCode ?_
 refine EQ.exitTo ?_
 refine EQ.exitHere ?_
 refine EQ.code ?_
 refine EW.sq (by kernel_rfl) ?_
 refine EW.rg (by kernel_rfl) ?_
 refine EL.quick 3 [2, 3] [(2, sv b4 b5 a8), (3, ia 0)] (by kernel_rfl) ?_
 refine EL.done (by kernel_rfl) ?_
 refine EQ.code ?_
 refine EW.ret (by kernel_rfl) ?_
 simp only [encS59, sv, Option.some.injEq, Prod.mk.injEq] at H
 obtain ⟨rfl, rfl⟩ := H
 exact EQ.leave (.tuple #[sv b4 b5 a8, ia 0]) (by kernel_rfl) ⟨_, rfl, b4, b5, rfl, (hS.re [0] [] rfl (sub_tail (sub_self)))⟩

/-! ### (*confidant/confidantref1.Reader).fail: function 64 -/
def confidantref1_Reader_fail.f (K : Nat) (a3 : List Int) (a2 : Int) (a0 : Int) : Option (List Int × Int) := some (([] : List Int), a0)
set_option maxRecDepth 100000 in
theorem confidantref1_Reader_fail.calls {K : Nat} {a3 : List Int} {a2 : Int} {a0 : Int} {a1 : Nat} {a4 : Option Addr} {a5 : Nat} {a6 : List Int} {a9 : Int} {B w : World} {os : List Ass} {rs : List Ro} (H : confidantref1_Reader_fail.f K a3 a2 a0 = some (a6, a9)) (hS : St B w (Ass.box 50 a1 [sv a4 a5 a3, ia a2] :: os) (Ro.sl (Kd.int .u8) a4 a5 a3 :: rs)) :
  Calls Tryz.prog 64 [pt a1 0, ia a0].toArray w (fun en w' => ∃ v, en = .returned v ∧ ∃ a7 : Option Addr, ∃ a8 : Nat, v = .tuple #[] ∧ St B w' (Ass.box 50 a1 [sv a7 a8 a6, ia a9] :: Ass.own 5 (Kd.int .u8) a7 a8 a6 :: os) (Ro.sl (Kd.int .u8) a4 a5 a3 :: rs)) := by
 unfold confidantref1_Reader_fail.f at H
 refine calls_of_EW (args := [pt a1 0, ia a0]) (c := Cd64) 11 Tryz.func64 (by kernel_rfl) (by kernel_rfl) (by kernel_rfl) ?_
 refine EW.rg (by kernel_rfl) ?_
 refine EL.quick 5 [5, 6, 8] [(5, pt a1 0), (6, ia a0), (8, pt a1 0)] (by kernel_rfl) ?_
 refine EL.of (EO.storeBox (os' := Ass.box 50 a1 [sv none 0 ([] : List Int), ia a2] :: os) hS 0 rfl 22 0 (sv none 0 ([] : List Int)) [sv none 0 ([] : List Int), ia a2] (by kernel_rfl) (by kernel_rfl) (by kernel_rfl) (by kernel_rfl) (by kernel_rfl) (by kernel_rfl) rfl rfl ?_)
 intro w hS
 refine EL.quick 2 [6, 10] [(6, ia a0), (10, pt a1 1)] (by kernel_rfl) ?_
 refine EL.of (EO.storeBox (os' := Ass.box 50 a1 [sv none 0 ([] : List Int), ia a0] :: os) hS 0 rfl 3 1 (ia a0) [sv none 0 ([] : List Int), ia a0] (by kernel_rfl) (by kernel_rfl) (by kernel_rfl) (by kernel_rfl) (by kernel_rfl) (by kernel_rfl) rfl rfl ?_)
 intro w hS
 refine EL.done (by kernel_rfl) ?_
 have hS := St.nilO hS 5 (Kd.int .u8)
 simp only [sv, Option.some.injEq, Prod.mk.injEq] at H
 obtain ⟨rfl, rfl⟩ := H
 exact EQ.leaveN (.tuple #[]) (by kernel_rfl) ⟨_, rfl, none, 0, rfl, (hS.re [0, 1] [] rfl (sub_self))⟩

/-! ### (*confidant/confidantref1.Reader).Num: function 44 -/
def confidantref1_Reader_Num.l0 (K : Nat) (a1 : List Int) (a6 : Int) (a3 : Int) (b0 : Option (List Int × Int × Int)) : Nat → Int → Int → Option (List Int × Int × Int)
 | 0, _, _ => none
 | n + 1, a4, a0 => if a0 < (a1.length : Int) then (if 0 ≤ a0 then (lt (fun (b5 : Bool) => (if b5 = true then (b2 (confidantref1_Reader_fail.f K a1 a6 20) fun (d0 : List Int) (d1 : Int) => (some (d0, d1, 0))) else (lt (bO .u64 (sL .u64 a4 7) (IntKind.u64.wrap (bA .u8 (a1.getD a0.toNat 0) 127))) fun a7 => (if (a1.getD a0.toNat 0) < 128 then (if a7 > a3 then (b2 (confidantref1_Reader_fail.f K a1 a6 22) fun (d2 : List Int) (d3 : Int) => (some (d2, d3, 0))) else (if 0 ≤ (IntKind.i64.wrap (a0 + 1)) then (if (IntKind.i64.wrap (a0 + 1)) ≤ (a1.length : Int) then (lt (a1.drop ((IntKind.i64.wrap (a0 + 1)).toNat)) fun b1 => (some (b1, a6, a7))) else none) else none)) else (confidantref1_Reader_Num.l0 K a1 a6 a3 b0 n a7 (IntKind.i64.wrap (a0 + 1))))))) fun b8 => (if a0 = 0 then (if (a1.getD a0.toNat 0) = 128 then (b8 true) else (b8 (decide (a4 > 144115188075855871)))) else (b8 (decide (a4 > 144115188075855871))))) else none) else (b0)
def confidantref1_Reader_Num.f (K : Nat) (a1 : List Int) (a6 : Int) (a3 : Int) : Option (List Int × Int × Int) := if a6 = 0 then (lt (b2 (confidantref1_Reader_fail.f K a1 a6 21) fun (d4 : List Int) (d5 : Int) => (some (d4, d5, 0))) fun b0 => (confidantref1_Reader_Num.l0 K a1 a6 a3 b0 K 0 0)) else (some (a1, a6, 0))
set_option maxRecDepth 100000 in
theorem confidantref1_Reader_Num.calls {K : Nat} {a1 : List Int} {a6 : Int} {a3 : Int} {a2 : Nat} {a8 : Option Addr} {a5 : Nat} {b4 : List Int} {b9 : Int} {c0 : Int} {B w : World} {os : List Ass} {rs : List Ro} (H : confidantref1_Reader_Num.f K a1 a6 a3 = some (b4, b9, c0)) (hS : St B w (Ass.box 50 a2 [sv a8 a5 a1, ia a6] :: os) (Ro.sl (Kd.int .u8) a8 a5 a1 :: rs)) :
  Calls Tryz.prog 44 [pt a2 0, ic a3].toArray w (fun en w' => ∃ v, en = .returned v ∧ ∃ c8 : Option Addr, ∃ c9 : Nat, v = ic c0 ∧ St B w' (Ass.box 50 a2 [sv c8 c9 b4, ia b9] :: os) (Ro.sl (Kd.int .u8) c8 c9 b4 :: Ro.sl (Kd.int .u8) a8 a5 a1 :: rs)) := by
 unfold confidantref1_Reader_Num.f at H
 refine calls_of_EW (args := [pt a2 0, ic a3]) (c := Cd44) 67 Tryz.func44 (by kernel_rfl) (by kernel_rfl) (by kernel_rfl) ?_
 refine EW.sq (by kernel_rfl) ?_
 refine EW.rg (by kernel_rfl) ?_
 refine EL.quick 1 [0, 1] [(0, pt a2 0), (1, ic a3)] (by kernel_rfl) ?_
 refine EL.done (by kernel_rfl) ?_
 refine EQ.code ?_
 refine EW.sq (by kernel_rfl) ?_
 refine EW.sq (by kernel_rfl) ?_
 refine EW.rg (by kernel_rfl) ?_
 refine EL.quick 3 [0, 1, 10] [(0, pt a2 0), (1, ic a3), (10, pt a2 1)] (by kernel_rfl) ?_
 refine EL.of (EO.Y (YO.loadBox hS 0 rfl 3 1 1 (ia a6) 11 (by kernel_rfl) (by kernel_rfl) (by kernel_rfl) (by kernel_rfl)) ?_)
 refine EL.quick 1 [0, 1, 12] [(0, pt a2 0), (1, ic a3), (12, .bool (!(decide (a6 = 0))))] (by kernel_rfl) ?_
 refine EL.done (by kernel_rfl) ?_
 refine EQ.code ?_
 refine EW.cdQ (b := !(decide (a6 = 0))) (a6 = 0) (false) (by kernel_rfl) (by kernel_rfl) ⟨fun h => (by rw [decide_eq_true h] <;> rfl), fun h => (by rw [decide_eq_false h] <;> rfl)⟩ (fun c3 => ?_) (fun c3 => ?_)
 ·rw [if_pos c3] at H
  refine EW.skip (by kernel_rfl) ?_
  refine EQ.code ?_
  refine EW.sq (by kernel_rfl) ?_
  refine EW.rg (by kernel_rfl) ?_
  refine EL.quick 1 [0, 1, 5] [(0, pt a2 0), (1, ic a3), (5, ic 0)] (by kernel_rfl) ?_
  refine EL.done (by kernel_rfl) ?_
  refine EQ.code ?_
  obtain ⟨b0, e5, H⟩ := lt_out H
  refine EW.ct (fun a w => Sat 67 [(0, pt a2 0)] a ∧ St B w (Ass.box 50 a2 [sv a8 a5 a1, ia a6] :: os) (Ro.sl (Kd.int .u8) a8 a5 a1 :: rs) ∧ b0 = some (b4, b9, c0)) (by kernel_rfl) ?_ (fun a w hI => ?_)
  ·refine EW.sq (by kernel_rfl) ?_
   refine EW.rg (by kernel_rfl) ?_
   refine EL.quick 1 [0, 1, 5, 6] [(0, pt a2 0), (1, ic a3), (5, ic 0), (6, ia 0)] (by kernel_rfl) ?_
   refine EL.done (by kernel_rfl) ?_
   refine EQ.code ?_
   refine EW.bl 0 (by kernel_rfl) ?_
   refine EW.lp (fun n a w => ∃ a4 : Int, ∃ a0 : Int, Sat 67 [(0, pt a2 0), (1, ic a3), (5, ic a4), (6, ia a0)] a ∧ St B w (Ass.box 50 a2 [sv a8 a5 a1, ia a6] :: os) (Ro.sl (Kd.int .u8) a8 a5 a1 :: rs) ∧ confidantref1_Reader_Num.l0 K a1 a6 a3 b0 n a4 a0 = some (b4, b9, c0)) K (by kernel_rfl) ?_ (fun n a w hI => ?_)
   ·refine EQ.keep [0, 1, 5, 6] [(0, pt a2 0), (1, ic a3), (5, ic 0), (6, ia 0)] (by kernel_rfl) ?_
    exact fun a ha => ⟨0, 0, ha, (hS.re [0] [] rfl (sub_cons 0 rfl (sub_tail (sub_self)))), H⟩
   obtain ⟨a4, a0, ha, hS, H⟩ := hI
   obtain _ | n := n
   ·simp [confidantref1_Reader_Num.l0] at H
   rw [confidantref1_Reader_Num.l0.eq_2] at H
   refine EW.at ?_ a ha
   clear ha a
   refine EW.sq (by kernel_rfl) ?_
   refine EW.sq (by kernel_rfl) ?_
   refine EW.rg (by kernel_rfl) ?_
   refine EL.quick 4 [0, 1, 5, 6, 13, 16] [(0, pt a2 0), (1, ic a3), (5, ic a4), (6, ia a0), (13, ia a0), (16, pt a2 0)] (by kernel_rfl) ?_
   refine EL.of (EO.Y (YO.loadBox hS 0 rfl 22 0 1 (sv a8 a5 a1) 17 (by kernel_rfl) (by kernel_rfl) (by kernel_rfl) (by kernel_rfl)) ?_)
   refine EL.quick 2 [0, 1, 5, 6, 19] [(0, pt a2 0), (1, ic a3), (5, ic a4), (6, ia a0), (19, .bool (decide (a0 < (a1.length : Int))))] (by kernel_rfl) ?_
   refine EL.done (by kernel_rfl) ?_
   refine EQ.code ?_
   refine EW.cdP (a0 < (a1.length : Int)) (by kernel_rfl) (by kernel_rfl) (fun b3 => ?_) (fun b3 => ?_)
   ·rw [if_pos b3] at H
    refine EW.skip (by kernel_rfl) ?_
    refine EQ.code ?_
    refine EW.sq (by kernel_rfl) ?_
    refine EW.bl 1 (by kernel_rfl) ?_
    refine EW.sq (by kernel_rfl) ?_
    refine EW.rg (by kernel_rfl) ?_
    refine EL.quick 3 [0, 1, 5, 6, 24] [(0, pt a2 0), (1, ic a3), (5, ic a4), (6, ia a0), (24, pt a2 0)] (by kernel_rfl) ?_
    refine EL.of (EO.Y (YO.loadBox hS 0 rfl 22 0 1 (sv a8 a5 a1) 25 (by kernel_rfl) (by kernel_rfl) (by kernel_rfl) (by kernel_rfl)) ?_)
    refine EL.quick 1 [0, 1, 5, 6, 25, 26] [(0, pt a2 0), (1, ic a3), (5, ic a4), (6, ia a0), (25, sv a8 a5 a1), (26, ia a0)] (by kernel_rfl) ?_
    obtain ⟨c4, H⟩ := ite_in H
    obtain ⟨a9, rfl⟩ := St.rd_some hS (Rd.ro 0 rfl) c4 b3
    refine EL.of (EO.Y (YO.idx 22 1 a9 a1.length a5 .i64 a0 27 (by kernel_rfl) (by kernel_rfl) (by kernel_rfl) (by kernel_rfl) c4 b3) ?_)
    refine EL.of (EO.Y (YO.loadEl hS (Kd.int .u8) a9 a5 a1 (Rd.ro 0 rfl) 0 (encI .u8) encI_of a0 c4 b3 5 1 0 1 rfl (ig (a1.getD a0.toNat 0)) 28 (by kernel_rfl) (by kernel_rfl) (by kernel_rfl) (by kernel_rfl)) ?_)
    refine EL.quick 1 [0, 1, 5, 6, 7] [(0, pt a2 0), (1, ic a3), (5, ic a4), (6, ia a0), (7, ig (a1.getD a0.toNat 0))] (by kernel_rfl) ?_
    refine EL.done (by kernel_rfl) ?_
    refine EQ.code ?_
    refine EW.sq (by kernel_rfl) ?_
    obtain ⟨b8, e6, H⟩ := lt_out H
    refine EW.ct (fun a w => ∃ b5 : Bool, Sat 67 [(0, pt a2 0), (1, ic a3), (5, ic a4), (6, ia a0), (7, ig (a1.getD a0.toNat 0)), (38, .bool (b5))] a ∧ St B w (Ass.box 50 a2 [sv (some a9) a5 a1, ia a6] :: os) (Ro.sl (Kd.int .u8) (some a9) a5 a1 :: rs) ∧ b8 b5 = some (b4, b9, c0)) (by kernel_rfl) ?_ (fun a w hI => ?_)
    ·refine EW.rg (by kernel_rfl) ?_
     refine EL.quick 3 [0, 1, 5, 6, 7, 31] [(0, pt a2 0), (1, ic a3), (5, ic a4), (6, ia a0), (7, ig (a1.getD a0.toNat 0)), (31, .bool (decide (a0 = 0)))] (by kernel_rfl) ?_
     by_cases c1 : a0 = 0
     ·rw [if_pos c1] at H
      refine EL.keep [0, 1, 5, 6, 7, 31] [(0, pt a2 0), (1, ic a3), (5, ic a4), (6, ia a0), (7, ig (a1.getD a0.toNat 0)), (31, .bool (decide (a0 = 0)))] (by kernel_rfl) ?_
      refine EL.as' [(0, pt a2 0), (1, ic a3), (5, ic a4), (6, ia a0), (7, ig (a1.getD a0.toNat 0)), (31, .bool (true))] (by simp only [sv, dec_t c1, Bool.not_true, Bool.not_false]) ?_
      refine EL.quick 4 [0, 1, 5, 6, 7, 32, 33, 35] [(0, pt a2 0), (1, ic a3), (5, ic a4), (6, ia a0), (7, ig (a1.getD a0.toNat 0)), (32, ig (a1.getD a0.toNat 0)), (33, .bool (decide ((a1.getD a0.toNat 0) = 128))), (35, .bool (decide ((a1.getD a0.toNat 0) = 128)))] (by kernel_rfl) ?_
      by_cases c2 : (a1.getD a0.toNat 0) = 128
      ·rw [if_pos c2] at H
       refine EL.keep [0, 1, 5, 6, 7, 32, 33, 35] [(0, pt a2 0), (1, ic a3), (5, ic a4), (6, ia a0), (7, ig (a1.getD a0.toNat 0)), (32, ig (a1.getD a0.toNat 0)), (33, .bool (decide ((a1.getD a0.toNat 0) = 128))), (35, .bool (decide ((a1.getD a0.toNat 0) = 128)))] (by kernel_rfl) ?_
       refine EL.as' [(0, pt a2 0), (1, ic a3), (5, ic a4), (6, ia a0), (7, ig (a1.getD a0.toNat 0)), (32, ig (a1.getD a0.toNat 0)), (33, .bool (true)), (35, .bool (true))] (by simp only [sv, dec_t c2, Bool.not_true, Bool.not_false]) ?_
       refine EL.quick 3 [0, 1, 5, 6, 7, 32, 33, 38] [(0, pt a2 0), (1, ic a3), (5, ic a4), (6, ia a0), (7, ig (a1.getD a0.toNat 0)), (32, ig (a1.getD a0.toNat 0)), (33, .bool (true)), (38, .bool (true))] (by kernel_rfl) ?_
       refine EL.done (by kernel_rfl) ?_
       refine EQ.to ?_
       refine EQ.keep [0, 1, 5, 6, 7, 38] [(0, pt a2 0), (1, ic a3), (5, ic a4), (6, ia a0), (7, ig (a1.getD a0.toNat 0)), (38, .bool (true))] (by kernel_rfl) ?_
       exact fun a ha => ⟨true, ha, (hS.re [0] [] rfl (sub_cons 0 rfl (sub_tail (sub_self)))), H⟩
      rw [if_neg c2] at H
      refine EL.keep [0, 1, 5, 6, 7, 32, 33, 35] [(0, pt a2 0), (1, ic a3), (5, ic a4), (6, ia a0), (7, ig (a1.getD a0.toNat 0)), (32, ig (a1.getD a0.toNat 0)), (33, .bool (decide ((a1.getD a0.toNat 0) = 128))), (35, .bool (decide ((a1.getD a0.toNat 0) = 128)))] (by kernel_rfl) ?_
      refine EL.as' [(0, pt a2 0), (1, ic a3), (5, ic a4), (6, ia a0), (7, ig (a1.getD a0.toNat 0)), (32, ig (a1.getD a0.toNat 0)), (33, .bool (false)), (35, .bool (false))] (by simp only [sv, dec_f c2, Bool.not_true, Bool.not_false]) ?_
      refine EL.quick 3 [0, 1, 5, 6, 7, 32, 33, 36, 37, 38] [(0, pt a2 0), (1, ic a3), (5, ic a4), (6, ia a0), (7, ig (a1.getD a0.toNat 0)), (32, ig (a1.getD a0.toNat 0)), (33, .bool (false)), (36, ic a4), (37, .bool (decide (a4 > 144115188075855871))), (38, .bool (decide (a4 > 144115188075855871)))] (by kernel_rfl) ?_
      refine EL.done (by kernel_rfl) ?_
      refine EQ.to ?_
      refine EQ.keep [0, 1, 5, 6, 7, 38] [(0, pt a2 0), (1, ic a3), (5, ic a4), (6, ia a0), (7, ig (a1.getD a0.toNat 0)), (38, .bool (decide (a4 > 144115188075855871)))] (by kernel_rfl) ?_
      exact fun a ha => ⟨decide (a4 > 144115188075855871), ha, (hS.re [0] [] rfl (sub_cons 0 rfl (sub_tail (sub_self)))), H⟩
     rw [if_neg c1] at H
     refine EL.keep [0, 1, 5, 6, 7, 31] [(0, pt a2 0), (1, ic a3), (5, ic a4), (6, ia a0), (7, ig (a1.getD a0.toNat 0)), (31, .bool (decide (a0 = 0)))] (by kernel_rfl) ?_
     refine EL.as' [(0, pt a2 0), (1, ic a3), (5, ic a4), (6, ia a0), (7, ig (a1.getD a0.toNat 0)), (31, .bool (false))] (by simp only [sv, dec_f c1, Bool.not_true, Bool.not_false]) ?_
     refine EL.quick 7 [0, 1, 5, 6, 7, 36, 37, 38] [(0, pt a2 0), (1, ic a3), (5, ic a4), (6, ia a0), (7, ig (a1.getD a0.toNat 0)), (36, ic a4), (37, .bool (decide (a4 > 144115188075855871))), (38, .bool (decide (a4 > 144115188075855871)))] (by kernel_rfl) ?_
     refine EL.done (by kernel_rfl) ?_
     refine EQ.to ?_
     refine EQ.keep [0, 1, 5, 6, 7, 38] [(0, pt a2 0), (1, ic a3), (5, ic a4), (6, ia a0), (7, ig (a1.getD a0.toNat 0)), (38, .bool (decide (a4 > 144115188075855871)))] (by kernel_rfl) ?_
     exact fun a ha => ⟨decide (a4 > 144115188075855871), ha, (hS.re [0] [] rfl (sub_cons 0 rfl (sub_tail (sub_self)))), H⟩
    obtain ⟨b5, ha, hS, H⟩ := hI
    rw [e6] at H
    (try dsimp only at H)
    refine EW.at ?_ a ha
    clear ha a
    refine EW.cdP' (b5) (by kernel_rfl) (by kernel_rfl) (fun c5 => ?_) (fun c5 => ?_)
    ·rw [if_pos c5] at H
     refine EW.sq (by kernel_rfl) ?_
     refine EW.rg (by kernel_rfl) ?_
     refine EL.quick 1 [39] [(39, pt a2 0)] (by kernel_rfl) ?_
     have hS : St B _ (Ass.box 50 a2 [sv (some a9) a5 a1, ia a6] :: os) (Ro.sl (Kd.int .u8) (some a9) a5 a1 :: rs) := hS.re [0] [] rfl (sub_cons 0 rfl (sub_tail (sub_self)))
     obtain ⟨d0, d1, e2, H⟩ := b2_out H
     have hq := confidantref1_Reader_fail.calls e2 hS
     refine EL.of (EO.callD 64 [pt a2 0, ia 20] _ 40 (by kernel_rfl) (by kernel_rfl) (by kernel_rfl) hq ?_)
     rintro v w ⟨d6, d9, rfl, hS⟩
     refine EL.done (by kernel_rfl) ?_
     refine EQ.code ?_
     refine EW.sq (by kernel_rfl) ?_
     refine EW.rg (by kernel_rfl) ?_
     refine EL.quick 1 [4] [(4, ic 0)] (by kernel_rfl) ?_
     refine EL.done (by kernel_rfl) ?_
     refine EQ.code ?_
     refine EW.ret (by kernel_rfl) ?_
     refine EQ.ret ?_
     refine EQ.ret ?_
     refine EQ.ret ?_
     refine EQ.ret ?_
     refine EQ.ret ?_
     refine EQ.ret ?_
     have hS := St.fr hS 1 rfl
     simp only [sv, Option.some.injEq, Prod.mk.injEq] at H
     obtain ⟨rfl, rfl, rfl⟩ := H
     exact EQ.leave (ic 0) (by kernel_rfl) ⟨_, rfl, d6, d9, rfl, (hS.re [0] [] rfl (sub_cons 0 rfl (sub_tail (sub_self))))⟩
    rw [if_neg c5] at H
    refine EW.skip (by kernel_rfl) ?_
    refine EQ.code ?_
    refine EW.sq (by kernel_rfl) ?_
    refine EW.rg (by kernel_rfl) ?_
    refine EL.quick 7 [0, 1, 5, 6, 7] [(0, pt a2 0), (1, ic a3), (5, ic (bO .u64 (sL .u64 a4 7) (IntKind.u64.wrap (bA .u8 (a1.getD a0.toNat 0) 127)))), (6, ia a0), (7, ig (a1.getD a0.toNat 0))] (by kernel_rfl) ?_
    obtain ⟨a7, e8, H⟩ := lt_out H
    refine EL.keep [0, 1, 5, 6, 7] [(0, pt a2 0), (1, ic a3), (5, ic (bO .u64 (sL .u64 a4 7) (IntKind.u64.wrap (bA .u8 (a1.getD a0.toNat 0) 127)))), (6, ia a0), (7, ig (a1.getD a0.toNat 0))] (by kernel_rfl) ?_
    refine EL.as' [(0, pt a2 0), (1, ic a3), (5, ic a7), (6, ia a0), (7, ig (a1.getD a0.toNat 0))] (by subst e8; rfl) ?_
    refine EL.done (by kernel_rfl) ?_
    refine EQ.code ?_
    refine EW.sq (by kernel_rfl) ?_
    refine EW.rg (by kernel_rfl) ?_
    refine EL.quick 2 [0, 1, 5, 6, 48] [(0, pt a2 0), (1, ic a3), (5, ic a7), (6, ia a0), (48, .bool (decide ((a1.getD a0.toNat 0) < 128)))] (by kernel_rfl) ?_
    refine EL.done (by kernel_rfl) ?_
    refine EQ.code ?_
    refine EW.cdP ((a1.getD a0.toNat 0) < 128) (by kernel_rfl) (by kernel_rfl) (fun c6 => ?_) (fun c6 => ?_)
    ·rw [if_pos c6] at H
     refine EW.sq (by kernel_rfl) ?_
     refine EW.sq (by kernel_rfl) ?_
     refine EW.rg (by kernel_rfl) ?_
     refine EL.quick 3 [0, 5, 6, 51] [(0, pt a2 0), (5, ic a7), (6, ia a0), (51, .bool (decide (a7 > a3)))] (by kernel_rfl) ?_
     refine EL.done (by kernel_rfl) ?_
     refine EQ.code ?_
     refine EW.cdP (a7 > a3) (by kernel_rfl) (by kernel_rfl) (fun c7 => ?_) (fun c7 => ?_)
     ·rw [if_pos c7] at H
      refine EW.sq (by kernel_rfl) ?_
      refine EW.rg (by kernel_rfl) ?_
      refine EL.quick 1 [52] [(52, pt a2 0)] (by kernel_rfl) ?_
      have hS : St B _ (Ass.box 50 a2 [sv (some a9) a5 a1, ia a6] :: os) (Ro.sl (Kd.int .u8) (some a9) a5 a1 :: rs) := hS.re [0] [] rfl (sub_cons 0 rfl (sub_tail (sub_self)))
      obtain ⟨d2, d3, e3, H⟩ := b2_out H
      have hq := confidantref1_Reader_fail.calls e3 hS
      refine EL.of (EO.callD 64 [pt a2 0, ia 22] _ 53 (by kernel_rfl) (by kernel_rfl) (by kernel_rfl) hq ?_)
      rintro v w ⟨d7, e0, rfl, hS⟩
      refine EL.done (by kernel_rfl) ?_
      refine EQ.code ?_
      refine EW.sq (by kernel_rfl) ?_
      refine EW.rg (by kernel_rfl) ?_
      refine EL.quick 1 [4] [(4, ic 0)] (by kernel_rfl) ?_
      refine EL.done (by kernel_rfl) ?_
      refine EQ.code ?_
      refine EW.ret (by kernel_rfl) ?_
      refine EQ.ret ?_
      refine EQ.ret ?_
      refine EQ.ret ?_
      refine EQ.ret ?_
      refine EQ.ret ?_
      refine EQ.ret ?_
      have hS := St.fr hS 1 rfl
      simp only [sv, Option.some.injEq, Prod.mk.injEq] at H
      obtain ⟨rfl, rfl, rfl⟩ := H
      exact EQ.leave (ic 0) (by kernel_rfl) ⟨_, rfl, d7, e0, rfl, (hS.re [0] [] rfl (sub_cons 0 rfl (sub_tail (sub_self))))⟩
     rw [if_neg c7] at H
     refine EW.skip (by kernel_rfl) ?_
     refine EQ.code ?_
     refine EW.sq (by kernel_rfl) ?_
     refine EW.rg (by kernel_rfl) ?_
     refine EL.quick 4 [5, 6, 54, 57] [(5, ic a7), (6, ia a0), (54, pt a2 0), (57, pt a2 0)] (by kernel_rfl) ?_
     refine EL.of (EO.Y (YO.loadBox hS 0 rfl 22 0 1 (sv (some a9) a5 a1) 58 (by kernel_rfl) (by kernel_rfl) (by kernel_rfl) (by kernel_rfl)) ?_)
     refine EL.quick 2 [5, 54, 58, 60] [(5, ic a7), (54, pt a2 0), (58, sv (some a9) a5 a1), (60, ia (IntKind.i64.wrap (a0 + 1)))] (by kernel_rfl) ?_
     obtain ⟨e9, H⟩ := ite_in H
     obtain ⟨f0, H⟩ := ite_in H
     obtain ⟨b1, e7, H⟩ := lt_out H
     refine EL.of (EO.sliceRo hS (Kd.int .u8) (some a9) a5 a1 0 rfl (some (ia (IntKind.i64.wrap (a0 + 1)))) none none ((IntKind.i64.wrap (a0 + 1)).toNat) a1.length a5 b1 (by rw [e7]; exact (slice_lo _ _)) 22 61 (by kernel_rfl) (by kernel_rfl) (by kernel_rfl) (by kernel_rfl) ((Int.toNat_of_nonneg (by omega)).symm) (rfl) ⟨rfl, fun h => by first | rfl | cases h⟩ (by omega) (by omega) (.inl rfl) ?_)
     intro b6 b7 hS
     refine EL.quick 2 [5, 61, 63] [(5, ic a7), (61, sv b6 b7 b1), (63, pt a2 0)] (by kernel_rfl) ?_
     refine EL.of (EO.storeBox (os' := Ass.box 50 a2 [sv b6 b7 b1, ia a6] :: os) hS 0 rfl 22 0 (sv b6 b7 b1) [sv b6 b7 b1, ia a6] (by kernel_rfl) (by kernel_rfl) (by kernel_rfl) (by kernel_rfl) (by kernel_rfl) (by kernel_rfl) rfl rfl ?_)
     intro w hS
     refine EL.done (by kernel_rfl) ?_
     refine EQ.code ?_
     refine EW.sq (by kernel_rfl) ?_
     refine EW.rg (by kernel_rfl) ?_
     refine EL.quick 2 [4] [(4, ic a7)] (by kernel_rfl) ?_
     refine EL.done (by kernel_rfl) ?_
     refine EQ.code ?_
     refine EW.ret (by kernel_rfl) ?_
     refine EQ.ret ?_
     refine EQ.ret ?_
     refine EQ.ret ?_
     refine EQ.ret ?_
     refine EQ.ret ?_
     simp only [sv, Option.some.injEq, Prod.mk.injEq] at H
     obtain ⟨rfl, rfl, rfl⟩ := H
     exact EQ.leave (ic a7) (by kernel_rfl) ⟨_, rfl, b6, b7, rfl, (hS.re [0] [] rfl (sub_cons 0 rfl (sub_tail (sub_self))))⟩
    rw [if_neg c6] at H
    refine EW.skip (by kernel_rfl) ?_
    refine EQ.pop ?_
    refine EQ.code ?_
    refine EW.rg (by kernel_rfl) ?_
    refine EL.quick 3 [0, 1, 5, 6] [(0, pt a2 0), (1, ic a3), (5, ic a7), (6, ia (IntKind.i64.wrap (a0 + 1)))] (by kernel_rfl) ?_
    refine EL.done (by kernel_rfl) ?_
    refine EQ.to ?_
    refine EQ.keep [0, 1, 5, 6] [(0, pt a2 0), (1, ic a3), (5, ic a7), (6, ia (IntKind.i64.wrap (a0 + 1)))] (by kernel_rfl) ?_
    exact fun a ha => ⟨n, Nat.lt_succ_self n, a7, IntKind.i64.wrap (a0 + 1), ha, (hS.re [0] [] rfl (sub_cons 0 rfl (sub_tail (sub_self)))), H⟩
   rw [if_neg b3] at H
   refine EW.exit (id := 0) (by kernel_rfl) ?_
   refine EQ.exitCode ?_
   refine EQ.exitTo ?_
   refine EQ.exitHere ?_
   refine EQ.to ?_
   refine EQ.keep [0] [(0, pt a2 0)] (by kernel_rfl) ?_
   exact fun a ha => ⟨ha, (hS.re [0] [] rfl (sub_cons 0 rfl (sub_tail (sub_self)))), H⟩
  obtain ⟨ha, hS, H⟩ := hI
  rw [e5] at H
  (try dsimp only at H)
  refine EW.at ?_ a ha
  clear ha a
  refine EW.sq (by kernel_rfl) ?_
  refine EW.rg (by kernel_rfl) ?_
  refine EL.quick 1 [65] [(65, pt a2 0)] (by kernel_rfl) ?_
  have hS : St B _ (Ass.box 50 a2 [sv a8 a5 a1, ia a6] :: os) (Ro.sl (Kd.int .u8) a8 a5 a1 :: rs) := hS.re [0] [] rfl (sub_cons 0 rfl (sub_tail (sub_self)))
  obtain ⟨d4, d5, e4, H⟩ := b2_out H
  have hq := confidantref1_Reader_fail.calls e4 hS
  refine EL.of (EO.callD 64 [pt a2 0, ia 21] _ 66 (by kernel_rfl) (by kernel_rfl) (by kernel_rfl) hq ?_)
  rintro v w ⟨d8, e1, rfl, hS⟩
  refine EL.done (by kernel_rfl) ?_
  refine EQ.code ?_
  refine EW.sq (by kernel_rfl) ?_
  refine EW.rg (by kernel_rfl) ?_
  refine EL.quick 1 [4] [(4, ic 0)] (by kernel_rfl) ?_
  refine EL.done (by kernel_rfl) ?_
  refine EQ.code ?_
  refine EW.ret (by kernel_rfl) ?_
  have hS := St.fr hS 1 rfl
  simp only [sv, Option.some.injEq, Prod.mk.injEq] at H
  obtain ⟨rfl, rfl, rfl⟩ := H
  exact EQ.leave (ic 0) (by kernel_rfl) ⟨_, rfl, d8, e1, rfl, (hS.re [0] [] rfl (sub_cons 0 rfl (sub_tail (sub_self))))⟩
 rw [if_neg c3] at H
 refine EW.sq (by kernel_rfl) ?_
 refine EW.rg (by kernel_rfl) ?_
 refine EL.quick 1 [4] [(4, ic 0)] (by kernel_rfl) ?_
 refine EL.done (by kernel_rfl) ?_
 refine EQ.code ?_
 refine EW.ret (by kernel_rfl) ?_
 refine EQ.ret ?_
 simp only [sv, Option.some.injEq, Prod.mk.injEq] at H
 obtain ⟨rfl, rfl, rfl⟩ := H
 exact EQ.leave (ic 0) (by kernel_rfl) ⟨_, rfl, a8, a5, rfl, (hS.re [0] [] rfl (sub_cons 0 rfl (sub_self)))⟩

/-! ### (*confidant/confidantref1.Reader).Word: function 65 -/
def confidantref1_Reader_Word.f (K : Nat) (a1 : List Int) (a4 : Int) : Option (List Int × Int × Int) := b3 (confidantref1_Reader_Num.f K a1 a4 4294967295) fun (a9 : List Int) (b0 : Int) (a5 : Int) => (some (a9, b0, IntKind.i32.wrap (IntKind.u32.wrap a5)))
set_option maxRecDepth 100000 in
theorem confidantref1_Reader_Word.calls {K : Nat} {a1 : List Int} {a4 : Int} {a0 : Nat} {a2 : Option Addr} {a3 : Nat} {a6 : List Int} {b1 : Int} {b2 : Int} {B w : World} {os : List Ass} {rs : List Ro} (H : confidantref1_Reader_Word.f K a1 a4 = some (a6, b1, b2)) (hS : St B w (Ass.box 50 a0 [sv a2 a3 a1, ia a4] :: os) (Ro.sl (Kd.int .u8) a2 a3 a1 :: rs)) :
  Calls Tryz.prog 65 [pt a0 0].toArray w (fun en w' => ∃ v, en = .returned v ∧ ∃ a7 : Option Addr, ∃ a8 : Nat, v = ib b2 ∧ St B w' (Ass.box 50 a0 [sv a7 a8 a6, ia b1] :: os) (Ro.sl (Kd.int .u8) a7 a8 a6 :: Ro.sl (Kd.int .u8) a2 a3 a1 :: rs)) := by
 unfold confidantref1_Reader_Word.f at H
 refine calls_of_EW (args := [pt a0 0]) (c := Cd65) 7 Tryz.func65 (by kernel_rfl) (by kernel_rfl) (by kernel_rfl) ?_
 refine EW.sq (by kernel_rfl) ?_
 refine EW.rg (by kernel_rfl) ?_
 refine EL.quick 1 [0] [(0, pt a0 0)] (by kernel_rfl) ?_
 refine EL.done (by kernel_rfl) ?_
 refine EQ.code ?_
 refine EW.sq (by kernel_rfl) ?_
 refine EW.rg (by kernel_rfl) ?_
 refine EL.quick 1 [3] [(3, pt a0 0)] (by kernel_rfl) ?_
 have hS : St B _ (Ass.box 50 a0 [sv a2 a3 a1, ia a4] :: os) (Ro.sl (Kd.int .u8) a2 a3 a1 :: rs) := hS.re [0] [] rfl (sub_cons 0 rfl (sub_tail (sub_self)))
 obtain ⟨a9, b0, a5, b6, H⟩ := b3_out H
 have hq := confidantref1_Reader_Num.calls b6 hS
 refine EL.of (EO.callD 44 [pt a0 0, ic 4294967295] _ 4 (by kernel_rfl) (by kernel_rfl) (by kernel_rfl) hq ?_)
 rintro v w ⟨b4, b5, rfl, hS⟩
 refine EL.quick 3 [2] [(2, ib (IntKind.i32.wrap (IntKind.u32.wrap a5)))] (by kernel_rfl) ?_
 refine EL.done (by kernel_rfl) ?_
 refine EQ.code ?_
 refine EW.ret (by kernel_rfl) ?_
 simp only [sv, Option.some.injEq, Prod.mk.injEq] at H
 obtain ⟨rfl, rfl, rfl⟩ := H
 exact EQ.leave (ib (IntKind.i32.wrap (IntKind.u32.wrap a5))) (by kernel_rfl) ⟨_, rfl, b4, b5, rfl, (hS.re [0] [] rfl (sub_cons 0 rfl (sub_tail (sub_self))))⟩

/-! ### confidant/confidantref5.Take: function 45 -/
def confidantref5_Take.f (K : Nat) (a6 : List Int) (c0 : Int) : Option (List Int × Int × Int × Int × Bool) := b3 (confidantref1_Reader_Num.f K a6 c0 26) fun (b0 : List Int) (b8 : Int) (a3 : Int) => (lt (fun (a7 : List Int) (a5 : Int) (a4 : Int) => (lt (fun (b9 : Bool) => (if b9 = true then (some (a7, a5, 0, 0, false)) else (some (a7, a5, IntKind.i64.wrap a3, a4, true)))) fun c5 => (if a5 = 0 then (b1 (confidantref5_Right.f K (IntKind.i64.wrap a3) a4) fun (c1 : Bool) => (c5 (!(c1)))) else (c5 true)))) fun c4 => (b1 (confidantref5_Arg.f K (IntKind.i64.wrap a3)) fun (c6 : Int) => (if c6 > 0 then (b3 (confidantref1_Reader_Word.f K b0 b8) fun (c7 : List Int) (c8 : Int) (b5 : Int) => (c4 c7 c8 b5)) else (c4 b0 b8 0))))
set_option maxRecDepth 100000 in
theorem confidantref5_Take.calls {K : Nat} {a6 : List Int} {c0 : Int} {a2 : Nat} {b2 : Option Addr} {b4 : Nat} {c2 : List Int} {c9 : Int} {d0 : Int} {d1 : Int} {d2 : Bool} {B w : World} {os : List Ass} {rs : List Ro} (H : confidantref5_Take.f K a6 c0 = some (c2, c9, d0, d1, d2)) (hS : St B w (Ass.box 50 a2 [sv b2 b4 a6, ia c0] :: os) (Ro.sl (Kd.int .u8) b2 b4 a6 :: rs)) :
  Calls Tryz.prog 45 [pt a2 0].toArray w (fun en w' => ∃ v, en = .returned v ∧ ∃ d5 : Option Addr, ∃ d7 : Nat, v = .tuple #[ag [ia d0, ib d1], .bool (d2)] ∧ St B w' (Ass.box 50 a2 [sv d5 d7 c2, ia c9] :: os) (Ro.sl (Kd.int .u8) d5 d7 c2 :: Ro.sl (Kd.int .u8) b2 b4 a6 :: rs)) := by
 unfold confidantref5_Take.f at H
 refine calls_of_EW (args := [pt a2 0]) (c := Cd45) 28 Tryz.func45 (by kernel_rfl) (by kernel_rfl) (by kernel_rfl) ?_
 refine EW.sq (by kernel_rfl) ?_
 refine EW.rg (by kernel_rfl) ?_
 refine EL.of (EO.alloc hS 59 (ag [ia 0, ib 0]) [ia 0, ib 0] 2 (by kernel_rfl) (by kernel_rfl) (by kernel_rfl) (by kernel_rfl) (by first | rfl | kernel_rfl) ?_)
 intro a0 w hS
 refine EL.quick 1 [0, 2] [(0, pt a2 0), (2, pt a0 0)] (by kernel_rfl) ?_
 refine EL.done (by kernel_rfl) ?_
 refine EQ.code ?_
 refine EW.sq (by kernel_rfl) ?_
 refine EW.rg (by kernel_rfl) ?_
 refine EL.of (EO.alloc hS 59 (ag [ia 0, ib 0]) [ia 0, ib 0] 4 (by kernel_rfl) (by kernel_rfl) (by kernel_rfl) (by kernel_rfl) (by first | rfl | kernel_rfl) ?_)
 intro a1 w hS
 refine EL.done (by kernel_rfl) ?_
 refine EQ.code ?_
 refine EW.sq (by kernel_rfl) ?_
 refine EW.rg (by kernel_rfl) ?_
 refine EL.quick 1 [0, 2, 4, 5] [(0, pt a2 0), (2, pt a0 0), (4, pt a1 0), (5, pt a2 0)] (by kernel_rfl) ?_
 have hS : St B _ (Ass.box 50 a2 [sv b2 b4 a6, ia c0] :: Ass.box 59 a1 [ia 0, ib 0] :: Ass.box 59 a0 [ia 0, ib 0] :: os) (Ro.sl (Kd.int .u8) b2 b4 a6 :: rs) := hS.re [2] [] rfl (sub_cons 0 rfl (sub_tail (sub_self)))
 obtain ⟨b0, b8, a3, d9, H⟩ := b3_out H
 have hq := confidantref1_Reader_Num.calls d9 hS
 refine EL.of (EO.callD 44 [pt a2 0, ic 26] _ 6 (by kernel_rfl) (by kernel_rfl) (by kernel_rfl) hq ?_)
 rintro v w ⟨b6, b7, rfl, hS⟩
 refine EL.quick 2 [0, 2, 4, 7, 8] [(0, pt a2 0), (2, pt a0 0), (4, pt a1 0), (7, ia (IntKind.i64.wrap a3)), (8, pt a1 0)] (by kernel_rfl) ?_
 refine EL.of (EO.storeBox (os' := Ass.box 50 a2 [sv b6 b7 b0, ia b8] :: Ass.box 59 a1 [ia (IntKind.i64.wrap a3), ib 0] :: Ass.box 59 a0 [ia 0, ib 0] :: os) hS 1 rfl 3 0 (ia (IntKind.i64.wrap a3)) [ia (IntKind.i64.wrap a3), ib 0] (by kernel_rfl) (by kernel_rfl) (by kernel_rfl) (by kernel_rfl) (by kernel_rfl) (by kernel_rfl) rfl rfl ?_)
 intro w hS
 refine EL.done (by kernel_rfl) ?_
 refine EQ.code ?_
 obtain ⟨c4, e3, H⟩ := lt_out H
 refine EW.ct (fun a w => ∃ a7 : List Int, ∃ a5 : Int, ∃ a4 : Int, ∃ a8 : Option Addr, ∃ a9 : Nat, Sat 28 [(0, pt a2 0), (2, pt a0 0), (4, pt a1 0)] a ∧ St B w (Ass.box 50 a2 [sv a8 a9 a7, ia a5] :: Ass.box 59 a1 [ia (IntKind.i64.wrap a3), ib a4] :: Ass.box 59 a0 [ia 0, ib 0] :: os) (Ro.sl (Kd.int .u8) a8 a9 a7 :: Ro.sl (Kd.int .u8) b6 b7 b0 :: Ro.sl (Kd.int .u8) b2 b4 a6 :: rs) ∧ c4 a7 a5 a4 = some (c2, c9, d0, d1, d2)) (by kernel_rfl) ?_ (fun a w hI => ?_)
 ·refine EW.sq (by kernel_rfl) ?_
  refine EW.rg (by kernel_rfl) ?_
  refine EL.quick 1 [0, 2, 4, 9] [(0, pt a2 0), (2, pt a0 0), (4, pt a1 0), (9, pt a1 0)] (by kernel_rfl) ?_
  refine EL.of (EO.Y (YO.loadBox hS 1 rfl 3 0 1 (ia (IntKind.i64.wrap a3)) 10 (by kernel_rfl) (by kernel_rfl) (by kernel_rfl) (by kernel_rfl)) ?_)
  obtain ⟨c6, e0, H⟩ := b1_out H
  have hq := confidantref5_Arg.calls e0 hS
  refine EL.of (EO.callD 47 [ia (IntKind.i64.wrap a3)] _ 11 (by kernel_rfl) (by kernel_rfl) (by kernel_rfl) hq ?_)
  rintro v w ⟨rfl, hS⟩
  refine EL.quick 1 [0, 2, 4, 12] [(0, pt a2 0), (2, pt a0 0), (4, pt a1 0), (12, .bool (decide (c6 > 0)))] (by kernel_rfl) ?_
  refine EL.done (by kernel_rfl) ?_
  refine EQ.code ?_
  refine EW.cdP (c6 > 0) (by kernel_rfl) (by kernel_rfl) (fun d3 => ?_) (fun d3 => ?_)
  ·rw [if_pos d3] at H
   refine EW.rg (by kernel_rfl) ?_
   refine EL.quick 1 [0, 2, 4, 13] [(0, pt a2 0), (2, pt a0 0), (4, pt a1 0), (13, pt a2 0)] (by kernel_rfl) ?_
   have hS : St B _ (Ass.box 50 a2 [sv b6 b7 b0, ia b8] :: Ass.box 59 a1 [ia (IntKind.i64.wrap a3), ib 0] :: Ass.box 59 a0 [ia 0, ib 0] :: os) (Ro.sl (Kd.int .u8) b6 b7 b0 :: Ro.sl (Kd.int .u8) b2 b4 a6 :: rs) := hS.re [0] [] rfl (sub_cons 0 rfl (sub_tail (sub_self)))
   obtain ⟨c7, c8, b5, e1, H⟩ := b3_out H
   have hq := confidantref1_Reader_Word.calls e1 hS
   refine EL.of (EO.callD 65 [pt a2 0] _ 14 (by kernel_rfl) (by kernel_rfl) (by kernel_rfl) hq ?_)
   rintro v w ⟨d6, d8, rfl, hS⟩
   refine EL.quick 1 [0, 2, 4, 14, 15] [(0, pt a2 0), (2, pt a0 0), (4, pt a1 0), (14, ib b5), (15, pt a1 1)] (by kernel_rfl) ?_
   refine EL.of (EO.storeBox (os' := Ass.box 50 a2 [sv d6 d8 c7, ia c8] :: Ass.box 59 a1 [ia (IntKind.i64.wrap a3), ib b5] :: Ass.box 59 a0 [ia 0, ib 0] :: os) hS 1 rfl 21 1 (ib b5) [ia (IntKind.i64.wrap a3), ib b5] (by kernel_rfl) (by kernel_rfl) (by kernel_rfl) (by kernel_rfl) (by kernel_rfl) (by kernel_rfl) rfl rfl ?_)
   intro w hS
   refine EL.done (by kernel_rfl) ?_
   refine EQ.to ?_
   refine EQ.keep [0, 2, 4] [(0, pt a2 0), (2, pt a0 0), (4, pt a1 0)] (by kernel_rfl) ?_
   exact fun a ha => ⟨c7, c8, b5, d6, d8, ha, (hS.re [2, 2, 2] [] rfl (sub_cons 0 rfl (sub_cons 1 rfl (sub_cons 2 rfl (sub_tail (sub_tail (sub_tail (sub_self)))))))), H⟩
  rw [if_neg d3] at H
  refine EW.skip (by kernel_rfl) ?_
  refine EQ.to ?_
  refine EQ.keep [0, 2, 4] [(0, pt a2 0), (2, pt a0 0), (4, pt a1 0)] (by kernel_rfl) ?_
  exact fun a ha => ⟨b0, b8, 0, b6, b7, ha, (hS.re [2, 2, 2] [] rfl (sub_cons 0 rfl (sub_cons 0 rfl (sub_cons 1 rfl (sub_tail (sub_tail (sub_self))))))), H⟩
 obtain ⟨a7, a5, a4, a8, a9, ha, hS, H⟩ := hI
 rw [e3] at H
 (try dsimp only at H)
 refine EW.at ?_ a ha
 clear ha a
 refine EW.sq (by kernel_rfl) ?_
 obtain ⟨c5, e4, H⟩ := lt_out H
 refine EW.ct (fun a w => ∃ b9 : Bool, Sat 28 [(2, pt a0 0), (4, pt a1 0), (25, .bool (b9))] a ∧ St B w (Ass.box 50 a2 [sv a8 a9 a7, ia a5] :: Ass.box 59 a1 [ia (IntKind.i64.wrap a3), ib a4] :: Ass.box 59 a0 [ia 0, ib 0] :: os) (Ro.sl (Kd.int .u8) a8 a9 a7 :: Ro.sl (Kd.int .u8) b6 b7 b0 :: Ro.sl (Kd.int .u8) b2 b4 a6 :: rs) ∧ c5 b9 = some (c2, c9, d0, d1, d2)) (by kernel_rfl) ?_ (fun a w hI => ?_)
 ·refine EW.rg (by kernel_rfl) ?_
  refine EL.quick 3 [2, 4, 18] [(2, pt a0 0), (4, pt a1 0), (18, pt a2 1)] (by kernel_rfl) ?_
  refine EL.of (EO.Y (YO.loadBox hS 0 rfl 3 1 1 (ia a5) 19 (by kernel_rfl) (by kernel_rfl) (by kernel_rfl) (by kernel_rfl)) ?_)
  refine EL.quick 2 [2, 4, 21] [(2, pt a0 0), (4, pt a1 0), (21, .bool (!(decide (a5 = 0))))] (by kernel_rfl) ?_
  by_cases c3 : a5 = 0
  ·rw [if_pos c3] at H
   refine EL.keep [2, 4, 21] [(2, pt a0 0), (4, pt a1 0), (21, .bool (!(decide (a5 = 0))))] (by kernel_rfl) ?_
   refine EL.as' [(2, pt a0 0), (4, pt a1 0), (21, .bool (false))] (by simp only [sv, dec_t c3, Bool.not_true, Bool.not_false]) ?_
   refine EL.of (EO.Y (YO.loadBox hS 1 rfl 59 0 2 (ag [ia (IntKind.i64.wrap a3), ib a4]) 22 (by kernel_rfl) (by kernel_rfl) (by kernel_rfl) (by kernel_rfl)) ?_)
   obtain ⟨c1, e2, H⟩ := b1_out H
   have hq := confidantref5_Right.calls e2 hS
   refine EL.of (EO.callD 32 [ag [ia (IntKind.i64.wrap a3), ib a4]] _ 23 (by kernel_rfl) (by kernel_rfl) (by kernel_rfl) hq ?_)
   rintro v w ⟨rfl, hS⟩
   refine EL.quick 2 [2, 4, 25] [(2, pt a0 0), (4, pt a1 0), (25, .bool (!(c1)))] (by kernel_rfl) ?_
   refine EL.done (by kernel_rfl) ?_
   refine EQ.to ?_
   refine EQ.keep [2, 4, 25] [(2, pt a0 0), (4, pt a1 0), (25, .bool (!(c1)))] (by kernel_rfl) ?_
   exact fun a ha => ⟨!(c1), ha, (hS.re [2, 2, 2] [] rfl (sub_cons 0 rfl (sub_cons 1 rfl (sub_cons 2 rfl (sub_tail (sub_tail (sub_tail (sub_self)))))))), H⟩
  rw [if_neg c3] at H
  refine EL.keep [2, 4, 21] [(2, pt a0 0), (4, pt a1 0), (21, .bool (!(decide (a5 = 0))))] (by kernel_rfl) ?_
  refine EL.as' [(2, pt a0 0), (4, pt a1 0), (21, .bool (true))] (by simp only [sv, dec_f c3, Bool.not_true, Bool.not_false]) ?_
  refine EL.quick 4 [2, 4, 25] [(2, pt a0 0), (4, pt a1 0), (25, .bool (true))] (by kernel_rfl) ?_
  refine EL.done (by kernel_rfl) ?_
  refine EQ.to ?_
  refine EQ.keep [2, 4, 25] [(2, pt a0 0), (4, pt a1 0), (25, .bool (true))] (by kernel_rfl) ?_
  exact fun a ha => ⟨true, ha, (hS.re [2, 2, 2] [] rfl (sub_cons 0 rfl (sub_cons 1 rfl (sub_cons 2 rfl (sub_tail (sub_tail (sub_tail (sub_self)))))))), H⟩
 obtain ⟨b9, ha, hS, H⟩ := hI
 rw [e4] at H
 (try dsimp only at H)
 refine EW.at ?_ a ha
 clear ha a
 refine EW.cdP' (b9) (by kernel_rfl) (by kernel_rfl) (fun d4 => ?_) (fun d4 => ?_)
 ·rw [if_pos d4] at H
  refine EW.sq (by kernel_rfl) ?_
  refine EW.rg (by kernel_rfl) ?_
  refine EL.quick 1 [2, 26] [(2, pt a0 0), (26, ag [ia 0, ib 0])] (by kernel_rfl) ?_
  refine EL.of (EO.storeBox (os' := Ass.box 50 a2 [sv a8 a9 a7, ia a5] :: Ass.box 59 a1 [ia (IntKind.i64.wrap a3), ib a4] :: Ass.box 59 a0 [ia 0, ib 0] :: os) hS 2 rfl 59 0 (ag [ia 0, ib 0]) [ia 0, ib 0] (by kernel_rfl) (by kernel_rfl) (by kernel_rfl) (by kernel_rfl) (by kernel_rfl) (by kernel_rfl) rfl rfl ?_)
  intro w hS
  refine EL.quick 1 [2, 3] [(2, pt a0 0), (3, .bool (false))] (by kernel_rfl) ?_
  refine EL.done (by kernel_rfl) ?_
  refine EQ.code ?_
  refine EW.ret (by kernel_rfl) ?_
  refine EQ.ret ?_
  simp only [sv, Option.some.injEq, Prod.mk.injEq] at H
  obtain ⟨rfl, rfl, rfl, rfl, rfl⟩ := H
  exact EQ.leave2 hS (.cell 2 59) (.tmp 3) (ag [ia 0, ib 0]) (.bool (false)) (by kernel_rfl) ⟨2, 59, a0, [ia 0, ib 0], 0, 2, rfl, (by kernel_rfl), (by kernel_rfl)⟩ (oneTmp (by kernel_rfl)) ⟨_, rfl, a8, a9, rfl, (hS.re [0] [1, 1] rfl (sub_cons 0 rfl (sub_tail (sub_tail (sub_self)))))⟩
 rw [if_neg d4] at H
 refine EW.skip (by kernel_rfl) ?_
 refine EQ.code ?_
 refine EW.sq (by kernel_rfl) ?_
 refine EW.rg (by kernel_rfl) ?_
 refine EL.of (EO.Y (YO.loadBox hS 1 rfl 59 0 2 (ag [ia (IntKind.i64.wrap a3), ib a4]) 27 (by kernel_rfl) (by kernel_rfl) (by kernel_rfl) (by kernel_rfl)) ?_)
 refine EL.of (EO.storeBox (os' := Ass.box 50 a2 [sv a8 a9 a7, ia a5] :: Ass.box 59 a1 [ia (IntKind.i64.wrap a3), ib a4] :: Ass.box 59 a0 [ia (IntKind.i64.wrap a3), ib a4] :: os) hS 2 rfl 59 0 (ag [ia (IntKind.i64.wrap a3), ib a4]) [ia (IntKind.i64.wrap a3), ib a4] (by kernel_rfl) (by kernel_rfl) (by kernel_rfl) (by kernel_rfl) (by kernel_rfl) (by kernel_rfl) rfl rfl ?_)
 intro w hS
 refine EL.quick 1 [2, 3] [(2, pt a0 0), (3, .bool (true))] (by kernel_rfl) ?_
 refine EL.done (by kernel_rfl) ?_
 refine EQ.code ?_
 refine EW.ret (by kernel_rfl) ?_
 simp only [sv, Option.some.injEq, Prod.mk.injEq] at H
 obtain ⟨rfl, rfl, rfl, rfl, rfl⟩ := H
 exact EQ.leave2 hS (.cell 2 59) (.tmp 3) (ag [ia (IntKind.i64.wrap a3), ib a4]) (.bool (true)) (by kernel_rfl) ⟨2, 59, a0, [ia (IntKind.i64.wrap a3), ib a4], 0, 2, rfl, (by kernel_rfl), (by kernel_rfl)⟩ (oneTmp (by kernel_rfl)) ⟨_, rfl, a8, a9, rfl, (hS.re [0] [1, 1] rfl (sub_cons 0 rfl (sub_tail (sub_tail (sub_self)))))⟩

/-! ### confidant/confidantref5.ImageTake: function 19 -/
def confidantref5_ImageTake.l1 (K : Nat) (a6 : Int) (e1 : (List Int) → Int → (List S59) → Option (List Int × Int × List (List S59) × Bool)) : Nat → (List Int) → Int → (List S59) → Int → Option (List Int × Int × List (List S59) × Bool)
 | 0, _, _, _, _ => none
 | n + 1, c5, d9, a7, a8 => if a8 < (IntKind.i64.wrap a6) then (b5 (confidantref5_Take.f K c5 d9) fun (f8 : List Int) (f9 : Int) (b9 : Int) (b6 : Int) (e3 : Bool) => (if e3 = true then (lt ([(⟨b9, b6⟩ : S59)] : List S59) fun f6 => (if (a7.length + f6.length) * 16 ≤ 140737488355328 then (lt (a7 ++ f6) fun d4 => (confidantref5_ImageTake.l1 K a6 e1 n f8 f9 d4 (IntKind.i64.wrap (a8 + 1)))) else none)) else (some (f8, f9, ([] : List (List S59)), false)))) else (e1 c5 d9 a7)
def confidantref5_ImageTake.l0 (K : Nat) (a2 : Int) (e0 : (List Int) → Int → (List (List S59)) → Option (List Int × Int × List (List S59) × Bool)) : Nat → (List Int) → Int → (List (List S59)) → Int → Option (List Int × Int × List (List S59) × Bool)
 | 0, _, _, _, _ => none
 | n + 1, b4, d7, a1, a3 => if a3 < (IntKind.i64.wrap a2) then (lt (fun (c8 : List (List S59)) (e7 : List Int) (g0 : Int) => (confidantref5_ImageTake.l0 K a2 e0 n e7 g0 c8 (IntKind.i64.wrap (a3 + 1)))) fun i7 => (b3 (confidantref1_Reader_Num.f K b4 d7 512) fun (f7 : List Int) (i9 : Int) (a6 : Int) => (lt (fun (c9 : List Int) (d8 : Int) (a9 : List S59) => (if (a1.length + ([a9] : List (List S59)).length) * 24 ≤ 140737488355328 then (lt (a1 ++ ([a9] : List (List S59))) fun e2 => (i7 e2 c9 d8)) else none)) fun e1 => (confidantref5_ImageTake.l1 K a6 e1 K f7 i9 ([] : List S59) 0)))) else (e0 b4 d7 a1)
def confidantref5_ImageTake.f (K : Nat) (b0 : List Int) (g5 : Int) : Option (List Int × Int × List (List S59) × Bool) := b3 (confidantref1_Reader_Num.f K b0 g5 64) fun (c3 : List Int) (i8 : Int) (a2 : Int) => (lt (fun (e6 : List Int) (c0 : Int) (c4 : List (List S59)) => (if c0 = 0 then (some (e6, c0, c4, true)) else (some (e6, c0, ([] : List (List S59)), false)))) fun e0 => (confidantref5_ImageTake.l0 K a2 e0 K c3 i8 ([] : List (List S59)) 0))
set_option maxRecDepth 100000 in
theorem confidantref5_ImageTake.calls {K : Nat} {b0 : List Int} {g5 : Int} {a0 : Nat} {b7 : Option Addr} {b8 : Nat} {d5 : List Int} {e4 : Int} {d6 : List (List S59)} {e5 : Bool} {B w : World} {os : List Ass} {rs : List Ro} (H : confidantref5_ImageTake.f K b0 g5 = some (d5, e4, d6, e5)) (hS : St B w (Ass.box 50 a0 [sv b7 b8 b0, ia g5] :: os) (Ro.sl (Kd.int .u8) b7 b8 b0 :: rs)) :
  Calls Tryz.prog 19 [pt a0 0].toArray w (fun en w' => ∃ v, en = .returned v ∧ ∃ j0 : Option Addr, ∃ j2 : Nat, ∃ j1 : Option Addr, ∃ j3 : Nat, v = .tuple #[sv j1 j3 d6, .bool (e5)] ∧ St B w' (Ass.box 50 a0 [sv j0 j2 d5, ia e4] :: Ass.deep 56 59 kS59 j1 j3 d6 :: os) (Ro.sl (Kd.int .u8) j0 j2 d5 :: Ro.sl (Kd.int .u8) b7 b8 b0 :: rs)) := by
 unfold confidantref5_ImageTake.f at H
 refine calls_of_EW (args := [pt a0 0]) (c := Cd19) 49 Tryz.func19 (by kernel_rfl) (by kernel_rfl) (by kernel_rfl) ?_
 refine EW.sq (by kernel_rfl) ?_
 refine EW.rg (by kernel_rfl) ?_
 refine EL.quick 2 [0] [(0, pt a0 0)] (by kernel_rfl) ?_
 refine EL.done (by kernel_rfl) ?_
 refine EQ.code ?_
 refine EW.sq (by kernel_rfl) ?_
 refine EW.rg (by kernel_rfl) ?_
 refine EL.quick 1 [0, 4] [(0, pt a0 0), (4, sv none 0 ([] : List (List S59)))] (by kernel_rfl) ?_
 refine EL.done (by kernel_rfl) ?_
 refine EQ.code ?_
 refine EW.sq (by kernel_rfl) ?_
 refine EW.rg (by kernel_rfl) ?_
 refine EL.quick 1 [0, 4, 12] [(0, pt a0 0), (4, sv none 0 ([] : List (List S59))), (12, pt a0 0)] (by kernel_rfl) ?_
 have hS : St B _ (Ass.box 50 a0 [sv b7 b8 b0, ia g5] :: os) (Ro.sl (Kd.int .u8) b7 b8 b0 :: rs) := hS.re [0] [] rfl (sub_cons 0 rfl (sub_tail (sub_self)))
 obtain ⟨c3, i8, a2, j9, H⟩ := b3_out H
 have hq := confidantref1_Reader_Num.calls j9 hS
 refine EL.of (EO.callD 44 [pt a0 0, ic 64] _ 13 (by kernel_rfl) (by kernel_rfl) (by kernel_rfl) hq ?_)
 rintro v w ⟨d0, d2, rfl, hS⟩
 refine EL.quick 2 [0, 4, 5] [(0, pt a0 0), (4, sv none 0 ([] : List (List S59))), (5, ia (IntKind.i64.wrap a2))] (by kernel_rfl) ?_
 refine EL.done (by kernel_rfl) ?_
 refine EQ.code ?_
 obtain ⟨e0, m2, H⟩ := lt_out H
 refine EW.ct (fun a w => ∃ e6 : List Int, ∃ c0 : Int, ∃ c4 : List (List S59), ∃ g1 : Option Addr, ∃ g3 : Nat, ∃ d1 : Option Addr, ∃ d3 : Nat, Sat 49 [(0, pt a0 0), (4, sv d1 d3 c4)] a ∧ St B w (Ass.box 50 a0 [sv g1 g3 e6, ia c0] :: Ass.deep 56 59 kS59 d1 d3 c4 :: os) (Ro.sl (Kd.int .u8) g1 g3 e6 :: Ro.sl (Kd.int .u8) d0 d2 c3 :: Ro.sl (Kd.int .u8) b7 b8 b0 :: rs) ∧ e0 e6 c0 c4 = some (d5, e4, d6, e5)) (by kernel_rfl) ?_ (fun a w hI => ?_)
 ·refine EW.sq (by kernel_rfl) ?_
  refine EW.rg (by kernel_rfl) ?_
  refine EL.quick 1 [0, 4, 5, 6] [(0, pt a0 0), (4, sv none 0 ([] : List (List S59))), (5, ia (IntKind.i64.wrap a2)), (6, ia 0)] (by kernel_rfl) ?_
  refine EL.done (by kernel_rfl) ?_
  refine EQ.code ?_
  refine EW.bl 0 (by kernel_rfl) ?_
  have hS := St.nilDeep hS 56 59 kS59
  refine EW.lp (fun n a w => ∃ b4 : List Int, ∃ d7 : Int, ∃ a1 : List (List S59), ∃ a3 : Int, ∃ c1 : Option Addr, ∃ c2 : Nat, ∃ a4 : Option Addr, ∃ a5 : Nat, Sat 49 [(0, pt a0 0), (4, sv a4 a5 a1), (5, ia (IntKind.i64.wrap a2)), (6, ia a3)] a ∧ St B w (Ass.box 50 a0 [sv c1 c2 b4, ia d7] :: Ass.deep 56 59 kS59 a4 a5 a1 :: os) (Ro.sl (Kd.int .u8) c1 c2 b4 :: Ro.sl (Kd.int .u8) d0 d2 c3 :: Ro.sl (Kd.int .u8) b7 b8 b0 :: rs) ∧ confidantref5_ImageTake.l0 K a2 e0 n b4 d7 a1 a3 = some (d5, e4, d6, e5)) K (by kernel_rfl) ?_ (fun n a w hI => ?_)
  ·refine EQ.keep [0, 4, 5, 6] [(0, pt a0 0), (4, sv none 0 ([] : List (List S59))), (5, ia (IntKind.i64.wrap a2)), (6, ia 0)] (by kernel_rfl) ?_
   exact fun a ha => ⟨c3, i8, ([] : List (List S59)), 0, d0, d2, none, 0, ha, (hS.re [0, 1] [] rfl (sub_cons 0 rfl (sub_cons 0 rfl (sub_cons 1 rfl (sub_tail (sub_tail (sub_self))))))), H⟩
  obtain ⟨b4, d7, a1, a3, c1, c2, a4, a5, ha, hS, H⟩ := hI
  obtain _ | n := n
  ·simp [confidantref5_ImageTake.l0] at H
  rw [confidantref5_ImageTake.l0.eq_2] at H
  refine EW.at ?_ a ha
  clear ha a
  refine EW.sq (by kernel_rfl) ?_
  refine EW.sq (by kernel_rfl) ?_
  refine EW.rg (by kernel_rfl) ?_
  refine EL.quick 3 [0, 4, 5, 6, 17] [(0, pt a0 0), (4, sv a4 a5 a1), (5, ia (IntKind.i64.wrap a2)), (6, ia a3), (17, .bool (decide (a3 < (IntKind.i64.wrap a2))))] (by kernel_rfl) ?_
  refine EL.done (by kernel_rfl) ?_
  refine EQ.code ?_
  refine EW.cdP (a3 < (IntKind.i64.wrap a2)) (by kernel_rfl) (by kernel_rfl) (fun i3 => ?_) (fun i3 => ?_)
  ·rw [if_pos i3] at H
   refine EW.skip (by kernel_rfl) ?_
   refine EQ.code ?_
   obtain ⟨i7, m3, H⟩ := lt_out H
   refine EW.ct (fun a w => ∃ c8 : List (List S59), ∃ e7 : List Int, ∃ g0 : Int, ∃ e8 : Option Addr, ∃ f2 : Nat, ∃ g7 : Option Addr, ∃ i0 : Nat, Sat 49 [(0, pt a0 0), (4, sv e8 f2 c8), (5, ia (IntKind.i64.wrap a2)), (6, ia a3)] a ∧ St B w (Ass.deep 56 59 kS59 e8 f2 c8 :: Ass.box 50 a0 [sv g7 i0 e7, ia g0] :: os) (Ro.sl (Kd.int .u8) g7 i0 e7 :: Ro.sl (Kd.int .u8) c1 c2 b4 :: Ro.sl (Kd.int .u8) d0 d2 c3 :: Ro.sl (Kd.int .u8) b7 b8 b0 :: rs) ∧ i7 c8 e7 g0 = some (d5, e4, d6, e5)) (by kernel_rfl) ?_ (fun a w hI => ?_)
   ·refine EW.bl 1 (by kernel_rfl) ?_
    refine EW.sq (by kernel_rfl) ?_
    refine EW.rg (by kernel_rfl) ?_
    refine EL.quick 1 [0, 4, 5, 6, 7] [(0, pt a0 0), (4, sv a4 a5 a1), (5, ia (IntKind.i64.wrap a2)), (6, ia a3), (7, sv none 0 ([] : List S59))] (by kernel_rfl) ?_
    refine EL.done (by kernel_rfl) ?_
    refine EQ.code ?_
    refine EW.sq (by kernel_rfl) ?_
    refine EW.rg (by kernel_rfl) ?_
    refine EL.quick 1 [0, 4, 5, 6, 7, 20] [(0, pt a0 0), (4, sv a4 a5 a1), (5, ia (IntKind.i64.wrap a2)), (6, ia a3), (7, sv none 0 ([] : List S59)), (20, pt a0 0)] (by kernel_rfl) ?_
    have hS : St B _ (Ass.box 50 a0 [sv c1 c2 b4, ia d7] :: Ass.deep 56 59 kS59 a4 a5 a1 :: os) (Ro.sl (Kd.int .u8) c1 c2 b4 :: Ro.sl (Kd.int .u8) d0 d2 c3 :: Ro.sl (Kd.int .u8) b7 b8 b0 :: rs) := hS.re [0] [] rfl (sub_cons 0 rfl (sub_tail (sub_self)))
    obtain ⟨f7, i9, a6, m0, H⟩ := b3_out H
    have hq := confidantref1_Reader_Num.calls m0 hS
    refine EL.of (EO.callD 44 [pt a0 0, ic 512] _ 21 (by kernel_rfl) (by kernel_rfl) (by kernel_rfl) hq ?_)
    rintro v w ⟨g8, i1, rfl, hS⟩
    refine EL.quick 2 [0, 4, 5, 6, 7, 8] [(0, pt a0 0), (4, sv a4 a5 a1), (5, ia (IntKind.i64.wrap a2)), (6, ia a3), (7, sv none 0 ([] : List S59)), (8, ia (IntKind.i64.wrap a6))] (by kernel_rfl) ?_
    refine EL.done (by kernel_rfl) ?_
    refine EQ.code ?_
    obtain ⟨e1, m4, H⟩ := lt_out H
    refine EW.ct (fun a w => ∃ c9 : List Int, ∃ d8 : Int, ∃ a9 : List S59, ∃ e9 : Option Addr, ∃ f3 : Nat, ∃ c6 : Option Addr, ∃ c7 : Nat, Sat 49 [(0, pt a0 0), (4, sv a4 a5 a1), (5, ia (IntKind.i64.wrap a2)), (6, ia a3), (7, sv c6 c7 a9)] a ∧ St B w (Ass.box 50 a0 [sv e9 f3 c9, ia d8] :: Ass.deep 56 59 kS59 a4 a5 a1 :: Ass.own 59 kS59 c6 c7 a9 :: os) (Ro.sl (Kd.int .u8) e9 f3 c9 :: Ro.sl (Kd.int .u8) g8 i1 f7 :: Ro.sl (Kd.int .u8) c1 c2 b4 :: Ro.sl (Kd.int .u8) d0 d2 c3 :: Ro.sl (Kd.int .u8) b7 b8 b0 :: rs) ∧ e1 c9 d8 a9 = some (d5, e4, d6, e5)) (by kernel_rfl) ?_ (fun a w hI => ?_)
    ·refine EW.sq (by kernel_rfl) ?_
     refine EW.rg (by kernel_rfl) ?_
     refine EL.quick 1 [0, 4, 5, 6, 7, 8, 9] [(0, pt a0 0), (4, sv a4 a5 a1), (5, ia (IntKind.i64.wrap a2)), (6, ia a3), (7, sv none 0 ([] : List S59)), (8, ia (IntKind.i64.wrap a6)), (9, ia 0)] (by kernel_rfl) ?_
     refine EL.done (by kernel_rfl) ?_
     refine EQ.code ?_
     refine EW.bl 2 (by kernel_rfl) ?_
     have hS := St.nilO hS 59 kS59
     refine EW.lp (fun n a w => ∃ c5 : List Int, ∃ d9 : Int, ∃ a7 : List S59, ∃ a8 : Int, ∃ f0 : Option Addr, ∃ f4 : Nat, ∃ b1 : Option Addr, ∃ b2 : Nat, Sat 49 [(0, pt a0 0), (4, sv a4 a5 a1), (5, ia (IntKind.i64.wrap a2)), (6, ia a3), (7, sv b1 b2 a7), (8, ia (IntKind.i64.wrap a6)), (9, ia a8)] a ∧ St B w (Ass.box 50 a0 [sv f0 f4 c5, ia d9] :: Ass.deep 56 59 kS59 a4 a5 a1 :: Ass.own 59 kS59 b1 b2 a7 :: os) (Ro.sl (Kd.int .u8) f0 f4 c5 :: Ro.sl (Kd.int .u8) g8 i1 f7 :: Ro.sl (Kd.int .u8) c1 c2 b4 :: Ro.sl (Kd.int .u8) d0 d2 c3 :: Ro.sl (Kd.int .u8) b7 b8 b0 :: rs) ∧ confidantref5_ImageTake.l1 K a6 e1 n c5 d9 a7 a8 = some (d5, e4, d6, e5)) K (by kernel_rfl) ?_ (fun n a w hI => ?_)
     ·refine EQ.keep [0, 4, 5, 6, 7, 8, 9] [(0, pt a0 0), (4, sv a4 a5 a1), (5, ia (IntKind.i64.wrap a2)), (6, ia a3), (7, sv none 0 ([] : List S59)), (8, ia (IntKind.i64.wrap a6)), (9, ia 0)] (by kernel_rfl) ?_
      exact fun a ha => ⟨f7, i9, ([] : List S59), 0, g8, i1, none, 0, ha, (hS.re [0, 2, 2] [] rfl (sub_cons 0 rfl (sub_cons 0 rfl (sub_cons 1 rfl (sub_cons 2 rfl (sub_cons 3 rfl (sub_tail (sub_tail (sub_tail (sub_tail (sub_self))))))))))), H⟩
     obtain ⟨c5, d9, a7, a8, f0, f4, b1, b2, ha, hS, H⟩ := hI
     obtain _ | n := n
     ·simp [confidantref5_ImageTake.l1] at H
     rw [confidantref5_ImageTake.l1.eq_2] at H
     refine EW.at ?_ a ha
     clear ha a
     refine EW.sq (by kernel_rfl) ?_
     refine EW.sq (by kernel_rfl) ?_
     refine EW.rg (by kernel_rfl) ?_
     refine EL.quick 3 [0, 4, 5, 6, 7, 8, 9, 25] [(0, pt a0 0), (4, sv a4 a5 a1), (5, ia (IntKind.i64.wrap a2)), (6, ia a3), (7, sv b1 b2 a7), (8, ia (IntKind.i64.wrap a6)), (9, ia a8), (25, .bool (decide (a8 < (IntKind.i64.wrap a6))))] (by kernel_rfl) ?_
     refine EL.done (by kernel_rfl) ?_
     refine EQ.code ?_
     refine EW.cdP (a8 < (IntKind.i64.wrap a6)) (by kernel_rfl) (by kernel_rfl) (fun i4 => ?_) (fun i4 => ?_)
     ·rw [if_pos i4] at H
      refine EW.skip (by kernel_rfl) ?_
      refine EQ.code ?_
      refine EW.sq (by kernel_rfl) ?_
      refine EW.bl 3 (by kernel_rfl) ?_
      refine EW.sq (by kernel_rfl) ?_
      refine EW.rg (by kernel_rfl) ?_
      refine EL.quick 1 [0, 4, 5, 6, 7, 8, 9, 29] [(0, pt a0 0), (4, sv a4 a5 a1), (5, ia (IntKind.i64.wrap a2)), (6, ia a3), (7, sv b1 b2 a7), (8, ia (IntKind.i64.wrap a6)), (9, ia a8), (29, pt a0 0)] (by kernel_rfl) ?_
      have hS : St B _ (Ass.box 50 a0 [sv f0 f4 c5, ia d9] :: Ass.deep 56 59 kS59 a4 a5 a1 :: Ass.own 59 kS59 b1 b2 a7 :: os) (Ro.sl (Kd.int .u8) f0 f4 c5 :: Ro.sl (Kd.int .u8) g8 i1 f7 :: Ro.sl (Kd.int .u8) c1 c2 b4 :: Ro.sl (Kd.int .u8) d0 d2 c3 :: Ro.sl (Kd.int .u8) b7 b8 b0 :: rs) := hS.re [0] [] rfl (sub_cons 0 rfl (sub_tail (sub_self)))
      obtain ⟨f8, f9, b9, b6, e3, m1, H⟩ := b5_out H
      have hq := confidantref5_Take.calls m1 hS
      refine EL.of (EO.callD 45 [pt a0 0] _ 30 (by kernel_rfl) (by kernel_rfl) (by kernel_rfl) hq ?_)
      rintro v w ⟨g9, i2, rfl, hS⟩
      refine EL.quick 3 [0, 4, 5, 6, 7, 8, 9, 31, 32] [(0, pt a0 0), (4, sv a4 a5 a1), (5, ia (IntKind.i64.wrap a2)), (6, ia a3), (7, sv b1 b2 a7), (8, ia (IntKind.i64.wrap a6)), (9, ia a8), (31, ag [ia b9, ib b6]), (32, .bool (e3))] (by kernel_rfl) ?_
      refine EL.of (EO.alloc hS 59 (ag [ia 0, ib 0]) [ia 0, ib 0] 10 (by kernel_rfl) (by kernel_rfl) (by kernel_rfl) (by kernel_rfl) (by first | rfl | kernel_rfl) ?_)
      intro g6 w hS
      refine EL.of (EO.storeBox (os' := Ass.box 59 g6 [ia b9, ib b6] :: Ass.box 50 a0 [sv g9 i2 f8, ia f9] :: Ass.deep 56 59 kS59 a4 a5 a1 :: Ass.own 59 kS59 b1 b2 a7 :: os) hS 0 rfl 59 0 (ag [ia b9, ib b6]) [ia b9, ib b6] (by kernel_rfl) (by kernel_rfl) (by kernel_rfl) (by kernel_rfl) (by kernel_rfl) (by kernel_rfl) rfl rfl ?_)
      intro w hS
      refine EL.quick 1 [0, 4, 5, 6, 7, 8, 9, 10, 11] [(0, pt a0 0), (4, sv a4 a5 a1), (5, ia (IntKind.i64.wrap a2)), (6, ia a3), (7, sv b1 b2 a7), (8, ia (IntKind.i64.wrap a6)), (9, ia a8), (10, pt g6 0), (11, .bool (e3))] (by kernel_rfl) ?_
      refine EL.done (by kernel_rfl) ?_
      refine EQ.code ?_
      refine EW.sq (by kernel_rfl) ?_
      refine EW.sq (by kernel_rfl) ?_
      refine EW.rg (by kernel_rfl) ?_
      refine EL.quick 2 [0, 4, 5, 6, 7, 8, 9, 10, 34] [(0, pt a0 0), (4, sv a4 a5 a1), (5, ia (IntKind.i64.wrap a2)), (6, ia a3), (7, sv b1 b2 a7), (8, ia (IntKind.i64.wrap a6)), (9, ia a8), (10, pt g6 0), (34, .bool (!(e3)))] (by kernel_rfl) ?_
      refine EL.done (by kernel_rfl) ?_
      refine EQ.code ?_
      refine EW.cdQ (b := !(e3)) (e3 = true) (false) (by kernel_rfl) (by kernel_rfl) ⟨fun h => (by rw [h] <;> rfl), fun h => (by rw [Bool.eq_false_iff.2 h] <;> rfl)⟩ (fun i5 => ?_) (fun i5 => ?_)
      ·rw [if_pos i5] at H
       refine EW.skip (by kernel_rfl) ?_
       refine EQ.code ?_
       refine EW.rg (by kernel_rfl) ?_
       refine EL.quick 1 [0, 4, 5, 6, 8, 9, 10, 35] [(0, pt a0 0), (4, sv a4 a5 a1), (5, ia (IntKind.i64.wrap a2)), (6, ia a3), (8, ia (IntKind.i64.wrap a6)), (9, ia a8), (10, pt g6 0), (35, sv b1 b2 a7)] (by kernel_rfl) ?_
       refine EL.of (EO.Y (YO.loadBox hS 0 rfl 59 0 2 (ag [ia b9, ib b6]) 36 (by kernel_rfl) (by kernel_rfl) (by kernel_rfl) (by kernel_rfl)) ?_)
       obtain ⟨f6, j6, H⟩ := lt_out H
       refine EL.of (EO.lit hS kS59 59 56 1 #[(0, ag [ia b9, ib b6])] [ia b9, ib b6] f6 37 (by kernel_rfl) (by kernel_rfl) (by kernel_rfl) (fun _ => (by kernel_rfl)) (by rw [j6]; rfl) (by kernel_rfl) (fun w G hr => (by rw [j6]; exact ⟨[ia b9, ib b6], [], rfl, ⟨[ia b9], [ib b6], rfl, rfl, ⟨[ib b6], [], rfl, rfl, rfl⟩⟩, rfl⟩)) ?_)
       intro j4 w hS
       obtain ⟨j7, H⟩ := ite_in H
       obtain ⟨d4, m5, H⟩ := lt_out H
       refine EL.of (EO.append hS 56 56 59 16 4 kS59 b1 b2 a7 rfl (some ⟨j4, 0, none⟩) 1 f6 (Rd.own 0 59 rfl) d4 m5 (fun f1 f5 => Ass.own 59 kS59 (some ⟨j4, 0, none⟩) 1 f6 :: Ass.box 59 g6 [ia b9, ib b6] :: Ass.box 50 a0 [sv g9 i2 f8, ia f9] :: Ass.deep 56 59 kS59 a4 a5 a1 :: Ass.own 59 kS59 f1 f5 d4 :: os) 38 (by kernel_rfl) (by kernel_rfl) (by kernel_rfl) (by kernel_rfl) j7 (fun _ _ => rfl) ?_)
       intro f1 f5 w hS
       refine EL.quick 1 [0, 4, 5, 6, 7, 8, 9] [(0, pt a0 0), (4, sv a4 a5 a1), (5, ia (IntKind.i64.wrap a2)), (6, ia a3), (7, sv f1 f5 d4), (8, ia (IntKind.i64.wrap a6)), (9, ia a8)] (by kernel_rfl) ?_
       refine EL.done (by kernel_rfl) ?_
       refine EQ.pop ?_
       refine EQ.code ?_
       refine EW.rg (by kernel_rfl) ?_
       refine EL.quick 3 [0, 4, 5, 6, 7, 8, 9] [(0, pt a0 0), (4, sv a4 a5 a1), (5, ia (IntKind.i64.wrap a2)), (6, ia a3), (7, sv f1 f5 d4), (8, ia (IntKind.i64.wrap a6)), (9, ia (IntKind.i64.wrap (a8 + 1)))] (by kernel_rfl) ?_
       refine EL.done (by kernel_rfl) ?_
       refine EQ.to ?_
       refine EQ.keep [0, 4, 5, 6, 7, 8, 9] [(0, pt a0 0), (4, sv a4 a5 a1), (5, ia (IntKind.i64.wrap a2)), (6, ia a3), (7, sv f1 f5 d4), (8, ia (IntKind.i64.wrap a6)), (9, ia (IntKind.i64.wrap (a8 + 1)))] (by kernel_rfl) ?_
       exact fun a ha => ⟨n, Nat.lt_succ_self n, f8, f9, d4, IntKind.i64.wrap (a8 + 1), g9, i2, f1, f5, ha, (hS.re [4, 4, 4] [3, 3] rfl (sub_cons 0 rfl (sub_cons 2 rfl (sub_cons 3 rfl (sub_cons 4 rfl (sub_cons 5 rfl (sub_tail (sub_tail (sub_tail (sub_tail (sub_tail (sub_tail (sub_self))))))))))))), H⟩
      rw [if_neg i5] at H
      refine EW.sq (by kernel_rfl) ?_
      refine EW.rg (by kernel_rfl) ?_
      refine EL.quick 2 [2, 3] [(2, sv none 0 ([] : List (List S59))), (3, .bool (false))] (by kernel_rfl) ?_
      refine EL.done (by kernel_rfl) ?_
      refine EQ.code ?_
      refine EW.ret (by kernel_rfl) ?_
      refine EQ.ret ?_
      refine EQ.ret ?_
      refine EQ.ret ?_
      refine EQ.ret ?_
      refine EQ.ret ?_
      refine EQ.ret ?_
      refine EQ.ret ?_
      refine EQ.ret ?_
      refine EQ.ret ?_
      refine EQ.ret ?_
      refine EQ.ret ?_
      have hS := St.nilDeep hS 56 59 kS59
      simp only [sv, Option.some.injEq, Prod.mk.injEq] at H
      obtain ⟨rfl, rfl, rfl, rfl⟩ := H
      exact EQ.leave (.tuple #[sv none 0 ([] : List (List S59)), .bool (false)]) (by kernel_rfl) ⟨_, rfl, g9, i2, none, 0, rfl, (hS.re [0, 2] [2, 2, 2] rfl (sub_cons 0 rfl (sub_tail (sub_tail (sub_tail (sub_tail (sub_tail (sub_self))))))))⟩
     rw [if_neg i4] at H
     refine EW.exit (id := 2) (by kernel_rfl) ?_
     refine EQ.exitCode ?_
     refine EQ.exitTo ?_
     refine EQ.exitHere ?_
     refine EQ.to ?_
     refine EQ.keep [0, 4, 5, 6, 7] [(0, pt a0 0), (4, sv a4 a5 a1), (5, ia (IntKind.i64.wrap a2)), (6, ia a3), (7, sv b1 b2 a7)] (by kernel_rfl) ?_
     exact fun a ha => ⟨c5, d9, a7, f0, f4, b1, b2, ha, (hS.re [2, 2, 2] [] rfl (sub_cons 0 rfl (sub_cons 1 rfl (sub_cons 2 rfl (sub_cons 3 rfl (sub_cons 4 rfl (sub_tail (sub_tail (sub_tail (sub_tail (sub_tail (sub_self)))))))))))), H⟩
    obtain ⟨c9, d8, a9, e9, f3, c6, c7, ha, hS, H⟩ := hI
    rw [m4] at H
    (try dsimp only at H)
    refine EW.at ?_ a ha
    clear ha a
    refine EW.rg (by kernel_rfl) ?_
    refine EL.quick 2 [0, 5, 6, 39, 40] [(0, pt a0 0), (5, ia (IntKind.i64.wrap a2)), (6, ia a3), (39, sv a4 a5 a1), (40, sv c6 c7 a9)] (by kernel_rfl) ?_
    refine EL.of (EO.lit (xs := ([(c6, a9.length, c7)] : List Hdr)) hS Kd.hdr 56 26 1 #[(0, sv c6 c7 a9)] [sv c6 c7 a9] 41 (by kernel_rfl) (by kernel_rfl) (by kernel_rfl) (fun _ => (by kernel_rfl)) rfl (by kernel_rfl) (fun w G hr => ⟨[sv c6 c7 a9], [], rfl, rfl, rfl⟩) ?_)
    intro j5 w hS
    have hS := St.as (os' := Ass.deep 56 59 kS59 (some ⟨j5, 0, none⟩) 1 ([a9] : List (List S59)) :: Ass.box 50 a0 [sv e9 f3 c9, ia d8] :: Ass.deep 56 59 kS59 a4 a5 a1 :: os) (St.fold (B := B) (os := _) (rs := _) (et := 56) (et' := 59) (K := kS59) (hs := [(c6, a9.length, c7)]) (xs := ([a9] : List (List S59))) ⟨rfl, trivial⟩ (St.re hS [3, 1] [] rfl sub_self)) rfl
    obtain ⟨j8, H⟩ := ite_in H
    obtain ⟨e2, m6, H⟩ := lt_out H
    refine EL.of (EO.appendDeep hS 26 26 24 2 0 kS59 a4 a5 a1 rfl (some ⟨j5, 0, none⟩) 1 ([a9] : List (List S59)) rfl e2 m6 (fun g2 g4 => Ass.deep 56 59 kS59 g2 g4 e2 :: Ass.box 50 a0 [sv e9 f3 c9, ia d8] :: os) 42 (by kernel_rfl) (by kernel_rfl) (by kernel_rfl) (by kernel_rfl) j8 (fun _ _ => rfl) ?_)
    intro g2 g4 w hS
    refine EL.quick 1 [0, 4, 5, 6] [(0, pt a0 0), (4, sv g2 g4 e2), (5, ia (IntKind.i64.wrap a2)), (6, ia a3)] (by kernel_rfl) ?_
    refine EL.done (by kernel_rfl) ?_
    refine EQ.pop ?_
    refine EQ.to ?_
    refine EQ.keep [0, 4, 5, 6] [(0, pt a0 0), (4, sv g2 g4 e2), (5, ia (IntKind.i64.wrap a2)), (6, ia a3)] (by kernel_rfl) ?_
    exact fun a ha => ⟨e2, c9, d8, g2, g4, e9, f3, ha, (hS.re [1, 1] [] rfl (sub_cons 0 rfl (sub_cons 2 rfl (sub_cons 3 rfl (sub_cons 4 rfl (sub_tail (sub_tail (sub_tail (sub_tail (sub_tail (sub_self))))))))))), H⟩
   obtain ⟨c8, e7, g0, e8, f2, g7, i0, ha, hS, H⟩ := hI
   rw [m3] at H
   (try dsimp only at H)
   refine EW.at ?_ a ha
   clear ha a
   refine EW.rg (by kernel_rfl) ?_
   refine EL.quick 3 [0, 4, 5, 6] [(0, pt a0 0), (4, sv e8 f2 c8), (5, ia (IntKind.i64.wrap a2)), (6, ia (IntKind.i64.wrap (a3 + 1)))] (by kernel_rfl) ?_
   refine EL.done (by kernel_rfl) ?_
   refine EQ.to ?_
   refine EQ.keep [0, 4, 5, 6] [(0, pt a0 0), (4, sv e8 f2 c8), (5, ia (IntKind.i64.wrap a2)), (6, ia (IntKind.i64.wrap (a3 + 1)))] (by kernel_rfl) ?_
   exact fun a ha => ⟨n, Nat.lt_succ_self n, e7, g0, c8, IntKind.i64.wrap (a3 + 1), g7, i0, e8, f2, ha, (hS.re [0, 1] [] rfl (sub_cons 0 rfl (sub_cons 2 rfl (sub_cons 3 rfl (sub_tail (sub_tail (sub_tail (sub_tail (sub_self))))))))), H⟩
  rw [if_neg i3] at H
  refine EW.exit (id := 0) (by kernel_rfl) ?_
  refine EQ.exitCode ?_
  refine EQ.exitTo ?_
  refine EQ.exitHere ?_
  refine EQ.to ?_
  refine EQ.keep [0, 4] [(0, pt a0 0), (4, sv a4 a5 a1)] (by kernel_rfl) ?_
  exact fun a ha => ⟨b4, d7, a1, c1, c2, a4, a5, ha, (hS.re [1, 1] [] rfl (sub_cons 0 rfl (sub_cons 1 rfl (sub_cons 2 rfl (sub_tail (sub_tail (sub_tail (sub_self)))))))), H⟩
 obtain ⟨e6, c0, c4, g1, g3, d1, d3, ha, hS, H⟩ := hI
 rw [m2] at H
 (try dsimp only at H)
 refine EW.at ?_ a ha
 clear ha a
 refine EW.sq (by kernel_rfl) ?_
 refine EW.sq (by kernel_rfl) ?_
 refine EW.rg (by kernel_rfl) ?_
 refine EL.quick 3 [4, 45] [(4, sv d1 d3 c4), (45, pt a0 1)] (by kernel_rfl) ?_
 refine EL.of (EO.Y (YO.loadBox hS 0 rfl 3 1 1 (ia c0) 46 (by kernel_rfl) (by kernel_rfl) (by kernel_rfl) (by kernel_rfl)) ?_)
 refine EL.quick 1 [4, 47] [(4, sv d1 d3 c4), (47, .bool (!(decide (c0 = 0))))] (by kernel_rfl) ?_
 refine EL.done (by kernel_rfl) ?_
 refine EQ.code ?_
 refine EW.cdQ (b := !(decide (c0 = 0))) (c0 = 0) (false) (by kernel_rfl) (by kernel_rfl) ⟨fun h => (by rw [decide_eq_true h] <;> rfl), fun h => (by rw [decide_eq_false h] <;> rfl)⟩ (fun i6 => ?_) (fun i6 => ?_)
 ·rw [if_pos i6] at H
  refine EW.skip (by kernel_rfl) ?_
  refine EQ.code ?_
  refine EW.sq (by kernel_rfl) ?_
  refine EW.rg (by kernel_rfl) ?_
  refine EL.quick 3 [2, 3] [(2, sv d1 d3 c4), (3, .bool (true))] (by kernel_rfl) ?_
  refine EL.done (by kernel_rfl) ?_
  refine EQ.code ?_
  refine EW.ret (by kernel_rfl) ?_
  simp only [sv, Option.some.injEq, Prod.mk.injEq] at H
  obtain ⟨rfl, rfl, rfl, rfl⟩ := H
  exact EQ.leave (.tuple #[sv d1 d3 c4, .bool (true)]) (by kernel_rfl) ⟨_, rfl, g1, g3, d1, d3, rfl, (hS.re [1, 1] [] rfl (sub_cons 0 rfl (sub_tail (sub_tail (sub_self)))))⟩
 rw [if_neg i6] at H
 refine EW.sq (by kernel_rfl) ?_
 refine EW.rg (by kernel_rfl) ?_
 refine EL.quick 2 [2, 3] [(2, sv none 0 ([] : List (List S59))), (3, .bool (false))] (by kernel_rfl) ?_
 refine EL.done (by kernel_rfl) ?_
 refine EQ.code ?_
 refine EW.ret (by kernel_rfl) ?_
 refine EQ.ret ?_
 have hS := St.nilDeep hS 56 59 kS59
 simp only [sv, Option.some.injEq, Prod.mk.injEq] at H
 obtain ⟨rfl, rfl, rfl, rfl⟩ := H
 exact EQ.leave (.tuple #[sv none 0 ([] : List (List S59)), .bool (false)]) (by kernel_rfl) ⟨_, rfl, g1, g3, none, 0, rfl, (hS.re [0, 1] [2] rfl (sub_cons 0 rfl (sub_tail (sub_tail (sub_self)))))⟩

/-! ### confidant/confidantref5.SameCode: function 40 -/
def confidantref5_SameCode.l0 (K : Nat) (a1 : List S59) (a2 : List S59) : Nat → Int → Option Bool
 | 0, _ => none
 | n + 1, a0 => if a0 < (a1.length : Int) then (if 0 ≤ a0 then (if a0 < (a2.length : Int) then (if ((((a1.getD a0.toNat zS59).f0) == ((a2.getD a0.toNat zS59).f0)) && ((((a1.getD a0.toNat zS59).f1) == ((a2.getD a0.toNat zS59).f1)) && true)) = true then (confidantref5_SameCode.l0 K a1 a2 n (IntKind.i64.wrap (a0 + 1))) else (some false)) else none) else none) else (some true)
def confidantref5_SameCode.f (K : Nat) (a1 : List S59) (a2 : List S59) : Option Bool := if (a1.length : Int) = (a2.length : Int) then (confidantref5_SameCode.l0 K a1 a2 K 0) else (some false)
set_option maxRecDepth 100000 in
theorem confidantref5_SameCode.calls {K : Nat} {a1 : List S59} {a2 : List S59} {a5 : Option Addr} {a3 : Nat} {a6 : Option Addr} {a4 : Nat} {b4 : Bool} {B w : World} {os : List Ass} {rs : List Ro} (H : confidantref5_SameCode.f K a1 a2 = some b4) (hS : St B w (os) (Ro.sl kS59 a5 a3 a1 :: Ro.sl kS59 a6 a4 a2 :: rs)) :
  Calls Tryz.prog 40 [sv a5 a3 a1, sv a6 a4 a2].toArray w (fun en w' => ∃ v, en = .returned v ∧ v = .bool (b4) ∧ St B w' (os) (Ro.sl kS59 a5 a3 a1 :: Ro.sl kS59 a6 a4 a2 :: rs)) := by
 unfold confidantref5_SameCode.f at H
 refine calls_of_EW (args := [sv a5 a3 a1, sv a6 a4 a2]) (c := Cd40) 26 Tryz.func40 (by kernel_rfl) (by kernel_rfl) (by kernel_rfl) ?_
 refine EW.sq (by kernel_rfl) ?_
 refine EW.rg (by kernel_rfl) ?_
 refine EL.quick 1 [0, 1] [(0, sv a5 a3 a1), (1, sv a6 a4 a2)] (by kernel_rfl) ?_
 refine EL.done (by kernel_rfl) ?_
 refine EQ.code ?_
 refine EW.sq (by kernel_rfl) ?_
 refine EW.sq (by kernel_rfl) ?_
 refine EW.rg (by kernel_rfl) ?_
 refine EL.quick 5 [0, 1, 10] [(0, sv a5 a3 a1), (1, sv a6 a4 a2), (10, .bool (!(decide ((a1.length : Int) = (a2.length : Int)))))] (by kernel_rfl) ?_
 refine EL.done (by kernel_rfl) ?_
 refine EQ.code ?_
 refine EW.cdQ (b := !(decide ((a1.length : Int) = (a2.length : Int)))) ((a1.length : Int) = (a2.length : Int)) (false) (by kernel_rfl) (by kernel_rfl) ⟨fun h => (by rw [decide_eq_true h] <;> rfl), fun h => (by rw [decide_eq_false h] <;> rfl)⟩ (fun b1 => ?_) (fun b1 => ?_)
 ·rw [if_pos b1] at H
  refine EW.skip (by kernel_rfl) ?_
  refine EQ.code ?_
  refine EW.sq (by kernel_rfl) ?_
  refine EW.sq (by kernel_rfl) ?_
  refine EW.rg (by kernel_rfl) ?_
  refine EL.quick 1 [0, 1, 5] [(0, sv a5 a3 a1), (1, sv a6 a4 a2), (5, ia 0)] (by kernel_rfl) ?_
  refine EL.done (by kernel_rfl) ?_
  refine EQ.code ?_
  refine EW.bl 0 (by kernel_rfl) ?_
  refine EW.lp (fun n a w => ∃ a0 : Int, Sat 26 [(0, sv a5 a3 a1), (1, sv a6 a4 a2), (5, ia a0)] a ∧ St B w (os) (Ro.sl kS59 a5 a3 a1 :: Ro.sl kS59 a6 a4 a2 :: rs) ∧ confidantref5_SameCode.l0 K a1 a2 n a0 = some b4) K (by kernel_rfl) ?_ (fun n a w hI => ?_)
  ·refine EQ.keep [0, 1, 5] [(0, sv a5 a3 a1), (1, sv a6 a4 a2), (5, ia 0)] (by kernel_rfl) ?_
   exact fun a ha => ⟨0, ha, (hS.re [] [] rfl (sub_cons 0 rfl (sub_cons 1 rfl (sub_tail (sub_tail (sub_self)))))), H⟩
  obtain ⟨a0, ha, hS, H⟩ := hI
  obtain _ | n := n
  ·simp [confidantref5_SameCode.l0] at H
  rw [confidantref5_SameCode.l0.eq_2] at H
  refine EW.at ?_ a ha
  clear ha a
  refine EW.sq (by kernel_rfl) ?_
  refine EW.sq (by kernel_rfl) ?_
  refine EW.rg (by kernel_rfl) ?_
  refine EL.quick 4 [0, 1, 5, 14] [(0, sv a5 a3 a1), (1, sv a6 a4 a2), (5, ia a0), (14, .bool (decide (a0 < (a1.length : Int))))] (by kernel_rfl) ?_
  refine EL.done (by kernel_rfl) ?_
  refine EQ.code ?_
  refine EW.cdP (a0 < (a1.length : Int)) (by kernel_rfl) (by kernel_rfl) (fun a9 => ?_) (fun a9 => ?_)
  ·rw [if_pos a9] at H
   refine EW.skip (by kernel_rfl) ?_
   refine EQ.code ?_
   refine EW.sq (by kernel_rfl) ?_
   refine EW.bl 1 (by kernel_rfl) ?_
   refine EW.sq (by kernel_rfl) ?_
   obtain ⟨b0, H⟩ := ite_in H
   obtain ⟨a7, rfl⟩ := St.rd_some hS (Rd.ro 0 rfl) b0 a9
   obtain ⟨b2, H⟩ := ite_in H
   obtain ⟨a8, rfl⟩ := St.rd_some hS (Rd.ro 1 rfl) b0 b2
   have hS := hS.drew
   refine EW.dr (B := B) [] [Ro.sl kS59 (some a7) a3 a1, Ro.sl kS59 (some a8) a4 a2] (by kernel_rfl) (by kernel_rfl) ?_
   have hN : Region.noSelect Cd40.r.r.l.r.l.l.r.l.l.l.ops = true := (by kernel_rfl)
   have hF : freeAll Cd40.r.r.l.r.l.l.r.l.l.l.ops = true := (by kernel_rfl)
   have hC : Core B [] [Ro.sl kS59 (some a7) a3 a1, Ro.sl kS59 (some a8) a4 a2] _ := ⟨_, _, hS⟩
   refine ED.quick hN hF hC [0, 1, 4, 5] [0, 1, 5, 17, 18, 21, 22] 5 [(0, sv (some a7) a3 a1), (1, sv (some a8) a4 a2), (5, ia a0), (17, sv (some a7) a3 a1), (18, ia a0), (21, sv (some a8) a4 a2), (22, ia a0)] (bm 9 51) (by kernel_rfl) (by kernel_rfl) ?_
   refine ED.Y hN hF hC 2 4 (bm 9 55) (by kernel_rfl) (by kernel_rfl) rfl (fun _ _ _ hS => YO.idx 56 2 a7 a1.length a3 .i64 a0 19 (by kernel_rfl) (by kernel_rfl) (by kernel_rfl) (by kernel_rfl) b0 a9) ?_
   refine ED.Y hN hF hC 3 3 (bm 9 63) (by kernel_rfl) (by kernel_rfl) rfl (fun _ _ _ hS => YO.loadEl hS kS59 a7 a3 a1 (Rd.ro 0 rfl) zS59 encS59 encS59_of a0 b0 a9 59 2 0 2 rfl (ag [ia ((a1.getD a0.toNat zS59).f0), ib ((a1.getD a0.toNat zS59).f1)]) 20 (by kernel_rfl) (by kernel_rfl) (by kernel_rfl) (by kernel_rfl)) ?_
   refine ED.Y hN hF hC 6 2 (bm 9 127) (by kernel_rfl) (by kernel_rfl) rfl (fun _ _ _ hS => YO.idx 56 2 a8 a2.length a4 .i64 a0 23 (by kernel_rfl) (by kernel_rfl) (by kernel_rfl) (by kernel_rfl) b0 b2) ?_
   refine ED.Y hN hF hC 7 1 (bm 9 255) (by kernel_rfl) (by kernel_rfl) rfl (fun _ _ _ hS => YO.loadEl hS kS59 a8 a4 a2 (Rd.ro 1 rfl) zS59 encS59 encS59_of a0 b0 b2 59 2 0 2 rfl (ag [ia ((a2.getD a0.toNat zS59).f0), ib ((a2.getD a0.toNat zS59).f1)]) 24 (by kernel_rfl) (by kernel_rfl) (by kernel_rfl) (by kernel_rfl)) ?_
   refine ED.Y hN hF hC 8 0 (bm 9 511) (by kernel_rfl) (by kernel_rfl) rfl (fun _ _ _ hS => YO.eqAg .neq 59 (.tmp 20) (.tmp 24) #[ia ((a1.getD a0.toNat zS59).f0), ib ((a1.getD a0.toNat zS59).f1)] #[ia ((a2.getD a0.toNat zS59).f0), ib ((a2.getD a0.toNat zS59).f1)] ((((a1.getD a0.toNat zS59).f0) == ((a2.getD a0.toNat zS59).f0)) && ((((a1.getD a0.toNat zS59).f1) == ((a2.getD a0.toNat zS59).f1)) && true)) (!(((((a1.getD a0.toNat zS59).f0) == ((a2.getD a0.toNat zS59).f0)) && ((((a1.getD a0.toNat zS59).f1) == ((a2.getD a0.toNat zS59).f1)) && true)))) 25 (by kernel_rfl) (by kernel_rfl) (by kernel_rfl) (by kernel_rfl) (by kernel_rfl) (.inr ⟨rfl, rfl⟩)) ?_
   refine ED.done (by kernel_rfl) ?_
   refine EQ.code ?_
   refine EW.cdQ (b := !(((((a1.getD a0.toNat zS59).f0) == ((a2.getD a0.toNat zS59).f0)) && ((((a1.getD a0.toNat zS59).f1) == ((a2.getD a0.toNat zS59).f1)) && true)))) (((((a1.getD a0.toNat zS59).f0) == ((a2.getD a0.toNat zS59).f0)) && ((((a1.getD a0.toNat zS59).f1) == ((a2.getD a0.toNat zS59).f1)) && true)) = true) (false) (by kernel_rfl) (by kernel_rfl) ⟨fun h => (by rw [h] <;> rfl), fun h => (by rw [Bool.eq_false_iff.2 h] <;> rfl)⟩ (fun b3 => ?_) (fun b3 => ?_)
   ·rw [if_pos b3] at H
    refine EW.skip (by kernel_rfl) ?_
    refine EQ.pop ?_
    refine EQ.code ?_
    refine EW.rg (by kernel_rfl) ?_
    refine EL.quick 3 [0, 1, 5] [(0, sv (some a7) a3 a1), (1, sv (some a8) a4 a2), (5, ia (IntKind.i64.wrap (a0 + 1)))] (by kernel_rfl) ?_
    refine EL.done (by kernel_rfl) ?_
    refine EQ.to ?_
    refine EQ.keep [0, 1, 5] [(0, sv (some a7) a3 a1), (1, sv (some a8) a4 a2), (5, ia (IntKind.i64.wrap (a0 + 1)))] (by kernel_rfl) ?_
    exact fun a ha => ⟨n, Nat.lt_succ_self n, IntKind.i64.wrap (a0 + 1), ha, (hS.re [] [] rfl (sub_cons 0 rfl (sub_cons 1 rfl (sub_tail (sub_tail (sub_self)))))), H⟩
   rw [if_neg b3] at H
   refine EW.sq (by kernel_rfl) ?_
   refine EW.rg (by kernel_rfl) ?_
   refine EL.quick 1 [4] [(4, .bool (false))] (by kernel_rfl) ?_
   refine EL.done (by kernel_rfl) ?_
   refine EQ.code ?_
   refine EW.ret (by kernel_rfl) ?_
   refine EQ.ret ?_
   refine EQ.ret ?_
   refine EQ.ret ?_
   refine EQ.ret ?_
   refine EQ.ret ?_
   obtain rfl := Option.some.inj H
   exact EQ.leave (.bool (false)) (by kernel_rfl) ⟨_, rfl, rfl, (hS.re [] [] rfl (sub_self))⟩
  rw [if_neg a9] at H
  refine EW.exit (id := 0) (by kernel_rfl) ?_
  refine EQ.exitCode ?_
  refine EQ.exitTo ?_
  refine EQ.exitHere ?_
  refine EQ.code ?_
  refine EW.sq (by kernel_rfl) ?_
  refine EW.rg (by kernel_rfl) ?_
  refine EL.quick 1 [4] [(4, .bool (true))] (by kernel_rfl) ?_
  refine EL.done (by kernel_rfl) ?_
  refine EQ.code ?_
  refine EW.ret (by kernel_rfl) ?_
  obtain rfl := Option.some.inj H
  exact EQ.leave (.bool (true)) (by kernel_rfl) ⟨_, rfl, rfl, (hS.re [] [] rfl (sub_self))⟩
 rw [if_neg b1] at H
 refine EW.sq (by kernel_rfl) ?_
 refine EW.rg (by kernel_rfl) ?_
 refine EL.quick 1 [4] [(4, .bool (false))] (by kernel_rfl) ?_
 refine EL.done (by kernel_rfl) ?_
 refine EQ.code ?_
 refine EW.ret (by kernel_rfl) ?_
 refine EQ.ret ?_
 obtain rfl := Option.some.inj H
 exact EQ.leave (.bool (false)) (by kernel_rfl) ⟨_, rfl, rfl, (hS.re [] [] rfl (sub_self))⟩

/-! ### confidant/confidantref5.Same: function 15 -/
def confidantref5_Same.l0 (K : Nat) (a0 : List (List S59)) (a1 : List (List S59)) : Nat → Int → Option Bool
 | 0, _ => none
 | n + 1, a2 => if a2 < (a0.length : Int) then (if 0 ≤ a2 then (if a2 < (a1.length : Int) then (b1 (confidantref5_SameCode.f K (a0.getD a2.toNat []) (a1.getD a2.toNat [])) fun (a9 : Bool) => (if a9 = true then (confidantref5_Same.l0 K a0 a1 n (IntKind.i64.wrap (a2 + 1))) else (some false))) else none) else none) else (some true)
def confidantref5_Same.f (K : Nat) (a0 : List (List S59)) (a1 : List (List S59)) : Option Bool := if (a0.length : Int) = (a1.length : Int) then (confidantref5_Same.l0 K a0 a1 K 0) else (some false)
set_option maxRecDepth 100000 in
theorem confidantref5_Same.calls {K : Nat} {a0 : List (List S59)} {a1 : List (List S59)} {a7 : Option Addr} {a3 : Nat} {a8 : Option Addr} {a4 : Nat} {b6 : Bool} {B w : World} {os : List Ass} {rs : List Ro} (H : confidantref5_Same.f K a0 a1 = some b6) (hS : St B w (os) (Ro.sl (Kd.slice kS59) a7 a3 a0 :: Ro.sl (Kd.slice kS59) a8 a4 a1 :: rs)) :
  Calls Tryz.prog 15 [sv a7 a3 a0, sv a8 a4 a1].toArray w (fun en w' => ∃ v, en = .returned v ∧ v = .bool (b6) ∧ St B w' (os) (Ro.sl (Kd.slice kS59) a7 a3 a0 :: Ro.sl (Kd.slice kS59) a8 a4 a1 :: rs)) := by
 unfold confidantref5_Same.f at H
 refine calls_of_EW (args := [sv a7 a3 a0, sv a8 a4 a1]) (c := Cd15) 27 Tryz.func15 (by kernel_rfl) (by kernel_rfl) (by kernel_rfl) ?_
 refine EW.sq (by kernel_rfl) ?_
 refine EW.rg (by kernel_rfl) ?_
 refine EL.quick 1 [0, 1] [(0, sv a7 a3 a0), (1, sv a8 a4 a1)] (by kernel_rfl) ?_
 refine EL.done (by kernel_rfl) ?_
 refine EQ.code ?_
 refine EW.sq (by kernel_rfl) ?_
 refine EW.sq (by kernel_rfl) ?_
 refine EW.rg (by kernel_rfl) ?_
 refine EL.quick 5 [0, 1, 10] [(0, sv a7 a3 a0), (1, sv a8 a4 a1), (10, .bool (!(decide ((a0.length : Int) = (a1.length : Int)))))] (by kernel_rfl) ?_
 refine EL.done (by kernel_rfl) ?_
 refine EQ.code ?_
 refine EW.cdQ (b := !(decide ((a0.length : Int) = (a1.length : Int)))) ((a0.length : Int) = (a1.length : Int)) (false) (by kernel_rfl) (by kernel_rfl) ⟨fun h => (by rw [decide_eq_true h] <;> rfl), fun h => (by rw [decide_eq_false h] <;> rfl)⟩ (fun b4 => ?_) (fun b4 => ?_)
 ·rw [if_pos b4] at H
  refine EW.skip (by kernel_rfl) ?_
  refine EQ.code ?_
  refine EW.sq (by kernel_rfl) ?_
  refine EW.sq (by kernel_rfl) ?_
  refine EW.rg (by kernel_rfl) ?_
  refine EL.quick 1 [0, 1, 5] [(0, sv a7 a3 a0), (1, sv a8 a4 a1), (5, ia 0)] (by kernel_rfl) ?_
  refine EL.done (by kernel_rfl) ?_
  refine EQ.code ?_
  refine EW.bl 0 (by kernel_rfl) ?_
  refine EW.lp (fun n a w => ∃ a2 : Int, Sat 27 [(0, sv a7 a3 a0), (1, sv a8 a4 a1), (5, ia a2)] a ∧ St B w (os) (Ro.sl (Kd.slice kS59) a7 a3 a0 :: Ro.sl (Kd.slice kS59) a8 a4 a1 :: rs) ∧ confidantref5_Same.l0 K a0 a1 n a2 = some b6) K (by kernel_rfl) ?_ (fun n a w hI => ?_)
  ·refine EQ.keep [0, 1, 5] [(0, sv a7 a3 a0), (1, sv a8 a4 a1), (5, ia 0)] (by kernel_rfl) ?_
   exact fun a ha => ⟨0, ha, (hS.re [] [] rfl (sub_cons 0 rfl (sub_cons 1 rfl (sub_tail (sub_tail (sub_self)))))), H⟩
  obtain ⟨a2, ha, hS, H⟩ := hI
  obtain _ | n := n
  ·simp [confidantref5_Same.l0] at H
  rw [confidantref5_Same.l0.eq_2] at H
  refine EW.at ?_ a ha
  clear ha a
  refine EW.sq (by kernel_rfl) ?_
  refine EW.sq (by kernel_rfl) ?_
  refine EW.rg (by kernel_rfl) ?_
  refine EL.quick 4 [0, 1, 5, 14] [(0, sv a7 a3 a0), (1, sv a8 a4 a1), (5, ia a2), (14, .bool (decide (a2 < (a0.length : Int))))] (by kernel_rfl) ?_
  refine EL.done (by kernel_rfl) ?_
  refine EQ.code ?_
  refine EW.cdP (a2 < (a0.length : Int)) (by kernel_rfl) (by kernel_rfl) (fun b2 => ?_) (fun b2 => ?_)
  ·rw [if_pos b2] at H
   refine EW.skip (by kernel_rfl) ?_
   refine EQ.code ?_
   refine EW.sq (by kernel_rfl) ?_
   refine EW.bl 1 (by kernel_rfl) ?_
   refine EW.sq (by kernel_rfl) ?_
   obtain ⟨b0, H⟩ := ite_in H
   obtain ⟨a5, rfl⟩ := St.rd_some hS (Rd.ro 0 rfl) b0 b2
   obtain ⟨b3, H⟩ := ite_in H
   obtain ⟨a6, rfl⟩ := St.rd_some hS (Rd.ro 1 rfl) b0 b3
   obtain ⟨a9, c5, H⟩ := b1_out H
   refine EW.mt (fun a w => Sat 27 [(0, sv (some a5) a3 a0), (1, sv (some a6) a4 a1), (5, ia a2), (26, .bool (!(a9)))] a ∧ St B w (os) (Ro.sl (Kd.slice kS59) (some a5) a3 a0 :: Ro.sl (Kd.slice kS59) (some a6) a4 a1 :: rs)) (by kernel_rfl) ?_ (fun a w hI => ?_)
   ·have hS := hS.drew
    refine EW.dr (B := B) [] [Ro.sl (Kd.slice kS59) (some a5) a3 a0, Ro.sl (Kd.slice kS59) (some a6) a4 a1] (by kernel_rfl) (by kernel_rfl) ?_
    have hN : Region.noSelect Cd15.r.r.l.r.l.l.r.l.l.l.ops = true := (by kernel_rfl)
    have hF : freeAll Cd15.r.r.l.r.l.l.r.l.l.l.ops = true := (by kernel_rfl)
    have hC : Core B [] [Ro.sl (Kd.slice kS59) (some a5) a3 a0, Ro.sl (Kd.slice kS59) (some a6) a4 a1] _ := ⟨_, _, hS⟩
    refine ED.quick hN hF hC [0, 1, 4, 5] [0, 1, 5, 17, 18, 21, 22] 6 [(0, sv (some a5) a3 a0), (1, sv (some a6) a4 a1), (5, ia a2), (17, sv (some a5) a3 a0), (18, ia a2), (21, sv (some a6) a4 a1), (22, ia a2)] (bm 10 51) (by kernel_rfl) (by kernel_rfl) ?_
    refine ED.Y hN hF hC 2 5 (bm 10 55) (by kernel_rfl) (by kernel_rfl) rfl (fun _ _ _ hS => YO.idx 26 1 a5 a0.length a3 .i64 a2 19 (by kernel_rfl) (by kernel_rfl) (by kernel_rfl) (by kernel_rfl) b0 b2) ?_
    refine ED.Y hN hF hC 6 4 (bm 10 119) (by kernel_rfl) (by kernel_rfl) rfl (fun _ _ _ hS => YO.idx 26 1 a6 a1.length a4 .i64 a2 23 (by kernel_rfl) (by kernel_rfl) (by kernel_rfl) (by kernel_rfl) b0 b3) ?_
    refine ED.two 3 7 3 (by kernel_rfl) (by kernel_rfl) ?_ ?_
    ·refine EO.loadSl hS kS59 a5 a3 a0 (Rd.ro 0 rfl) a2 b0 b2 56 20 (by kernel_rfl) (by kernel_rfl) (by kernel_rfl) (by kernel_rfl) ?_
     intro b7 c1 hS
     have hC := hC.again ⟨_, _, hS.re [] [] rfl (sub_cons 1 rfl (sub_cons 2 rfl sub_self))⟩
     refine ⟨hC, ?_⟩
     refine ED.at' (bm 10 127) (by kernel_rfl) ?_
     refine ED.one 7 2 (bm 10 255) (by kernel_rfl) (by kernel_rfl) (by kernel_rfl) (EO.loadSl hS kS59 a6 a4 a1 (Rd.ro 2 rfl) a2 b0 b3 56 24 (by kernel_rfl) (by kernel_rfl) (by kernel_rfl) (by kernel_rfl) ?_)
     intro b8 c2 hS
     have hC := hC.again ⟨_, _, hS.re [] [] rfl (sub_cons 2 rfl (sub_cons 3 rfl sub_self))⟩
     refine ⟨hC, ?_⟩
     have hS : St B _ (os) (Ro.sl kS59 b7 c1 (a0.getD a2.toNat []) :: Ro.sl kS59 b8 c2 (a1.getD a2.toNat []) :: Ro.sl (Kd.slice kS59) (some a5) a3 a0 :: Ro.sl (Kd.slice kS59) (some a6) a4 a1 :: rs) := hS.re [] [] rfl (sub_cons 1 rfl (sub_cons 0 rfl (sub_tail (sub_tail (sub_self)))))
     have hq := confidantref5_SameCode.calls c5 hS
     refine ED.one 8 1 (bm 10 511) (by kernel_rfl) (by kernel_rfl) (by kernel_rfl) (EO.callD 40 [sv b7 c1 (a0.getD a2.toNat []), sv b8 c2 (a1.getD a2.toNat [])] _ 25 (by kernel_rfl) (by kernel_rfl) (by kernel_rfl) hq ?_)
     rintro v w ⟨rfl, hS⟩
     have hC := hC.again ⟨_, _, hS.re [] [] rfl (sub_cons 2 rfl (sub_cons 3 rfl sub_self))⟩
     refine ⟨hC, ?_⟩
     refine ED.quick hN hF hC [9] [0, 1, 5, 26] 0 [(0, sv (some a5) a3 a0), (1, sv (some a6) a4 a1), (5, ia a2), (26, .bool (!(a9)))] (bm 10 1023) (by kernel_rfl) (by kernel_rfl) ?_
     refine ED.done (by kernel_rfl) ?_
     refine EQ.to ?_
     refine EQ.keep [0, 1, 5, 26] [(0, sv (some a5) a3 a0), (1, sv (some a6) a4 a1), (5, ia a2), (26, .bool (!(a9)))] (by kernel_rfl) ?_
     exact fun a ha => ⟨ha, (hS.re [] [] rfl (sub_cons 2 rfl (sub_cons 3 rfl (sub_tail (sub_tail (sub_tail (sub_tail (sub_self))))))))⟩
    ·refine EO.loadSl hS kS59 a6 a4 a1 (Rd.ro 1 rfl) a2 b0 b3 56 24 (by kernel_rfl) (by kernel_rfl) (by kernel_rfl) (by kernel_rfl) ?_
     intro b9 c3 hS
     have hC := hC.again ⟨_, _, hS.re [] [] rfl (sub_cons 1 rfl (sub_cons 2 rfl sub_self))⟩
     refine ⟨hC, ?_⟩
     refine ED.at' (bm 10 247) (by kernel_rfl) ?_
     refine ED.one 3 2 (bm 10 255) (by kernel_rfl) (by kernel_rfl) (by kernel_rfl) (EO.loadSl hS kS59 a5 a3 a0 (Rd.ro 1 rfl) a2 b0 b2 56 20 (by kernel_rfl) (by kernel_rfl) (by kernel_rfl) (by kernel_rfl) ?_)
     intro c0 c4 hS
     have hC := hC.again ⟨_, _, hS.re [] [] rfl (sub_cons 2 rfl (sub_cons 3 rfl sub_self))⟩
     refine ⟨hC, ?_⟩
     have hS : St B _ (os) (Ro.sl kS59 c0 c4 (a0.getD a2.toNat []) :: Ro.sl kS59 b9 c3 (a1.getD a2.toNat []) :: Ro.sl (Kd.slice kS59) (some a5) a3 a0 :: Ro.sl (Kd.slice kS59) (some a6) a4 a1 :: rs) := hS.re [] [] rfl (sub_cons 0 rfl (sub_cons 1 rfl (sub_tail (sub_tail (sub_self)))))
     have hq := confidantref5_SameCode.calls c5 hS
     refine ED.one 8 1 (bm 10 511) (by kernel_rfl) (by kernel_rfl) (by kernel_rfl) (EO.callD 40 [sv c0 c4 (a0.getD a2.toNat []), sv b9 c3 (a1.getD a2.toNat [])] _ 25 (by kernel_rfl) (by kernel_rfl) (by kernel_rfl) hq ?_)
     rintro v w ⟨rfl, hS⟩
     have hC := hC.again ⟨_, _, hS.re [] [] rfl (sub_cons 2 rfl (sub_cons 3 rfl sub_self))⟩
     refine ⟨hC, ?_⟩
     refine ED.quick hN hF hC [9] [0, 1, 5, 26] 0 [(0, sv (some a5) a3 a0), (1, sv (some a6) a4 a1), (5, ia a2), (26, .bool (!(a9)))] (bm 10 1023) (by kernel_rfl) (by kernel_rfl) ?_
     refine ED.done (by kernel_rfl) ?_
     refine EQ.to ?_
     refine EQ.keep [0, 1, 5, 26] [(0, sv (some a5) a3 a0), (1, sv (some a6) a4 a1), (5, ia a2), (26, .bool (!(a9)))] (by kernel_rfl) ?_
     exact fun a ha => ⟨ha, (hS.re [] [] rfl (sub_cons 2 rfl (sub_cons 3 rfl (sub_tail (sub_tail (sub_tail (sub_tail (sub_self))))))))⟩
   ·obtain ⟨ha, hS⟩ := hI
    refine EQ.at ?_ a ha
    clear ha a
    refine EQ.code ?_
    refine EW.cdQ (b := !(a9)) (a9 = true) (false) (by kernel_rfl) (by kernel_rfl) ⟨fun h => (by rw [h] <;> rfl), fun h => (by rw [Bool.eq_false_iff.2 h] <;> rfl)⟩ (fun b5 => ?_) (fun b5 => ?_)
    ·rw [if_pos b5] at H
     refine EW.skip (by kernel_rfl) ?_
     refine EQ.pop ?_
     refine EQ.code ?_
     refine EW.rg (by kernel_rfl) ?_
     refine EL.quick 3 [0, 1, 5] [(0, sv (some a5) a3 a0), (1, sv (some a6) a4 a1), (5, ia (IntKind.i64.wrap (a2 + 1)))] (by kernel_rfl) ?_
     refine EL.done (by kernel_rfl) ?_
     refine EQ.to ?_
     refine EQ.keep [0, 1, 5] [(0, sv (some a5) a3 a0), (1, sv (some a6) a4 a1), (5, ia (IntKind.i64.wrap (a2 + 1)))] (by kernel_rfl) ?_
     exact fun a ha => ⟨n, Nat.lt_succ_self n, IntKind.i64.wrap (a2 + 1), ha, (hS.re [] [] rfl (sub_cons 0 rfl (sub_cons 1 rfl (sub_tail (sub_tail (sub_self)))))), H⟩
    rw [if_neg b5] at H
    refine EW.sq (by kernel_rfl) ?_
    refine EW.rg (by kernel_rfl) ?_
    refine EL.quick 1 [4] [(4, .bool (false))] (by kernel_rfl) ?_
    refine EL.done (by kernel_rfl) ?_
    refine EQ.code ?_
    refine EW.ret (by kernel_rfl) ?_
    refine EQ.ret ?_
    refine EQ.ret ?_
    refine EQ.ret ?_
    refine EQ.ret ?_
    refine EQ.ret ?_
    obtain rfl := Option.some.inj H
    exact EQ.leave (.bool (false)) (by kernel_rfl) ⟨_, rfl, rfl, (hS.re [] [] rfl (sub_self))⟩
  rw [if_neg b2] at H
  refine EW.exit (id := 0) (by kernel_rfl) ?_
  refine EQ.exitCode ?_
  refine EQ.exitTo ?_
  refine EQ.exitHere ?_
  refine EQ.code ?_
  refine EW.sq (by kernel_rfl) ?_
  refine EW.rg (by kernel_rfl) ?_
  refine EL.quick 1 [4] [(4, .bool (true))] (by kernel_rfl) ?_
  refine EL.done (by kernel_rfl) ?_
  refine EQ.code ?_
  refine EW.ret (by kernel_rfl) ?_
  obtain rfl := Option.some.inj H
  exact EQ.leave (.bool (true)) (by kernel_rfl) ⟨_, rfl, rfl, (hS.re [] [] rfl (sub_self))⟩
 rw [if_neg b4] at H
 refine EW.sq (by kernel_rfl) ?_
 refine EW.rg (by kernel_rfl) ?_
 refine EL.quick 1 [4] [(4, .bool (false))] (by kernel_rfl) ?_
 refine EL.done (by kernel_rfl) ?_
 refine EQ.code ?_
 refine EW.ret (by kernel_rfl) ?_
 refine EQ.ret ?_
 obtain rfl := Option.some.inj H
 exact EQ.leave (.bool (false)) (by kernel_rfl) ⟨_, rfl, rfl, (hS.re [] [] rfl (sub_self))⟩

end Go.Proofs.YtiilloijkbabbaaGreatDoor.G
