import Derived.Test.YtiilloijkbabbaaDoorProg
import Derived.Test.YtiilloijkbabbaaDoorFwShort
import Derived.Test.YtiilloijkbabbaaDoorFwOpen
import Derived.Test.YtiilloijkbabbaaDoorG0
import Derived.Test.YtiilloijkbabbaaDoorG1
namespace Go.Proofs.YtiilloijkbabbaaDoor.G
open Go Go.Fw Go.RowKit Go.Proofs
set_option linter.unusedVariables false
set_option linter.unusedSimpArgs false

/-! ### confidant/confidantseat.Code: function 8 -/
def confidantseat_Code.l1 (K : Nat) (a3 : Int) (a0 : List Int) (a5 : Int) (a6 : Int) (a7 : Bool) (f2 : (List S27) → Option (List (List S27))) : Nat → (List S27) → Int → Option (List (List S27))
 | 0, _, _ => none
 | n + 1, b4, b0 => lt (fun (i3 : Bool) => (if i3 = true then (lt (fun (n2 : List S27) (e5 : List S27) => (confidantseat_Code.l1 K a3 a0 a5 a6 a7 f2 n e5 (IntKind.i64.wrap (b0 + (IntKind.i64.wrap (3 * a3)))))) fun m9 => (if 0 ≤ b0 then (if b0 < (a0.length : Int) then (if 0 ≤ (IntKind.i64.wrap (b0 + 1)) then (if (IntKind.i64.wrap (b0 + 1)) < (a0.length : Int) then (if 0 ≤ (IntKind.i64.wrap (b0 + 2)) then (if (IntKind.i64.wrap (b0 + 2)) < (a0.length : Int) then (b1 (confidantseat_piece.f K (a0.getD b0.toNat 0) (a0.getD (IntKind.i64.wrap (b0 + 1)).toNat 0) (a0.getD (IntKind.i64.wrap (b0 + 2)).toNat 0) a5 a3 a6 a7) fun (b6 : List S27) => (lt (fun (e6 : List S27) => (if (e6.length + b6.length) * 16 ≤ 140737488355328 then (lt (e6 ++ b6) fun c4 => (if (Int.tmod (a0.getD b0.toNat 0) 16) = 14 then (b2 (confidantseat_in.f K 12 1) fun (e9 : Int) (e2 : Int) => (b2 (confidantseat_in.f K 1 1) fun (e3 : Int) (d8 : Int) => (b2 (confidantseat_in.f K 5 0) fun (d9 : Int) (d6 : Int) => (b2 (confidantseat_in.f K 13 1) fun (d7 : Int) (d1 : Int) => (b2 (confidantseat_in.f K 12 1) fun (d2 : Int) (c8 : Int) => (b2 (confidantseat_in.f K 11 (IntKind.i64.wrap ((c4.length : Int) + 7))) fun (d3 : Int) (c9 : Int) => (b2 (confidantseat_in.f K 10 (mx (IntKind.i64.wrap ((IntKind.i64.wrap ((c4.length : Int) - (b6.length : Int))) + 2)) 0)) fun (d4 : Int) (d0 : Int) => (lt ([(⟨e9, e2⟩ : S27), (⟨e3, d8⟩ : S27), (⟨d9, d6⟩ : S27), (⟨d7, d1⟩ : S27), (⟨d2, c8⟩ : S27), (⟨d3, c9⟩ : S27), (⟨d4, d0⟩ : S27)] : List S27) fun g8 => (if (c4.length + g8.length) * 16 ≤ 140737488355328 then (lt (c4 ++ g8) fun f4 => (m9 b6 f4)) else none))))))))) else (m9 b6 c4))) else none)) fun n0 => (if (Int.tmod (a0.getD (IntKind.i64.wrap (b0 + 1)).toNat 0) 5) = 4 then (b2 (confidantseat_in.f K 12 (IntKind.i64.wrap (Int.tmod (a0.getD (IntKind.i64.wrap (b0 + 2)).toNat 0) 4))) fun (f8 : Int) (e7 : Int) => (b2 (confidantseat_in.f K 11 (IntKind.i64.wrap ((IntKind.i64.wrap ((b4.length : Int) + 2)) + (b6.length : Int)))) fun (f9 : Int) (e8 : Int) => (lt ([(⟨f8, e7⟩ : S27), (⟨f9, e8⟩ : S27)] : List S27) fun g7 => (if (b4.length + g7.length) * 16 ≤ 140737488355328 then (lt (b4 ++ g7) fun f3 => (n0 f3)) else none)))) else (n0 b4)))) else none) else none) else none) else none) else none) else none)) else (f2 b4))) fun m8 => (if (IntKind.i64.wrap (b0 + 2)) < (a0.length : Int) then (m8 (decide ((b4.length : Int) < 30))) else (m8 false))
def confidantseat_Code.l0 (K : Nat) (a3 : Int) (a0 : List Int) (a5 : Int) (a6 : Int) (a7 : Bool) : Nat → (List (List S27)) → Int → Option (List (List S27))
 | 0, _, _ => none
 | n + 1, a4, a1 => if a1 < a3 then (lt (fun (e4 : List (List S27)) => (confidantseat_Code.l0 K a3 a0 a5 a6 a7 n e4 (IntKind.i64.wrap (a1 + 1)))) fun o2 => (lt (fun (b7 : List S27) => (lt (fun (c5 : List S27) => (if (a4.length + ([c5] : List (List S27)).length) * 24 ≤ 140737488355328 then (lt (a4 ++ ([c5] : List (List S27))) fun f7 => (o2 f7)) else none)) fun n1 => (lt (fun (i4 : Bool) => (if i4 = true then (if 0 ≤ a1 then (if a1 < (a0.length : Int) then (b2 (confidantseat_in.f K 26 (IntKind.i64.wrap (IntKind.u8.wrap (Int.tdiv (a0.getD a1.toNat 0) 8)))) fun (i1 : Int) (g0 : Int) => (lt ([(⟨i1, g0⟩ : S27)] : List S27) fun g9 => (if (b7.length + g9.length) * 16 ≤ 140737488355328 then (lt (b7 ++ g9) fun f5 => (n1 f5)) else none))) else none) else none) else (b2 (confidantseat_in.f K 12 (Int.tmod a1 4)) fun (i2 : Int) (g1 : Int) => (b2 (confidantseat_in.f K 25 0) fun (g2 : Int) (f0 : Int) => (lt ([(⟨i2, g1⟩ : S27), (⟨g2, f0⟩ : S27)] : List S27) fun i0 => (if (b7.length + i0.length) * 16 ≤ 140737488355328 then (lt (b7 ++ i0) fun f6 => (n1 f6)) else none)))))) fun m0 => (if (Int.tmod a1 3) = 2 then (if (a0.length : Int) > a1 then (if 0 ≤ a1 then (if a1 < (a0.length : Int) then (m0 (decide ((Int.tmod (a0.getD a1.toNat 0) 8) = 0))) else none) else none) else (m0 false)) else (m0 false))))) fun f2 => (confidantseat_Code.l1 K a3 a0 a5 a6 a7 f2 K ([] : List S27) (IntKind.i64.wrap (3 * a1))))) else (some a4)
def confidantseat_Code.f (K : Nat) (a0 : List Int) (a5 : Int) (a3 : Int) (a6 : Int) (a7 : Bool) : Option (List (List S27)) := confidantseat_Code.l0 K a3 a0 a5 a6 a7 K ([] : List (List S27)) 0
set_option maxRecDepth 100000 in
theorem confidantseat_Code.calls {K : Nat} {a0 : List Int} {a5 : Int} {a3 : Int} {a6 : Int} {a7 : Bool} {b3 : Option Addr} {a2 : Nat} {d5 : List (List S27)} {B w : World} {os : List Ass} {rs : List Ro} (H : confidantseat_Code.f K a0 a5 a3 a6 a7 = some d5) (hS : St B w (os) (Ro.sl (Kd.int .u8) b3 a2 a0 :: rs)) :
  Calls Tryd.prog 8 [sv b3 a2 a0, ia a5, ia a3, ia a6, .bool (a7)].toArray w (fun en w' => ∃ v, en = .returned v ∧ ∃ o3 : Option Addr, ∃ o5 : Nat, v = sv o3 o5 d5 ∧ St B w' (Ass.deep 25 27 kS27 o3 o5 d5 :: os) (Ro.sl (Kd.int .u8) b3 a2 a0 :: rs)) := by
 unfold confidantseat_Code.f at H
 refine calls_of_EW (args := [sv b3 a2 a0, ia a5, ia a3, ia a6, .bool (a7)]) (c := Cd8) 149 Tryd.func8 (by kernel_rfl) (by kernel_rfl) (by kernel_rfl) ?_
 refine EW.sq (by kernel_rfl) ?_
 refine EW.rg (by kernel_rfl) ?_
 refine EL.quick 1 [0, 1, 2, 3, 4] [(0, sv b3 a2 a0), (1, ia a5), (2, ia a3), (3, ia a6), (4, .bool (a7))] (by kernel_rfl) ?_
 refine EL.done (by kernel_rfl) ?_
 refine EQ.code ?_
 refine EW.sq (by kernel_rfl) ?_
 refine EW.rg (by kernel_rfl) ?_
 refine EL.quick 1 [0, 1, 2, 3, 4, 11] [(0, sv b3 a2 a0), (1, ia a5), (2, ia a3), (3, ia a6), (4, .bool (a7)), (11, sv none 0 ([] : List (List S27)))] (by kernel_rfl) ?_
 refine EL.done (by kernel_rfl) ?_
 refine EQ.code ?_
 refine EW.sq (by kernel_rfl) ?_
 refine EW.sq (by kernel_rfl) ?_
 refine EW.rg (by kernel_rfl) ?_
 refine EL.quick 1 [0, 1, 2, 3, 4, 11, 12] [(0, sv b3 a2 a0), (1, ia a5), (2, ia a3), (3, ia a6), (4, .bool (a7)), (11, sv none 0 ([] : List (List S27))), (12, ia 0)] (by kernel_rfl) ?_
 refine EL.done (by kernel_rfl) ?_
 refine EQ.code ?_
 refine EW.bl 0 (by kernel_rfl) ?_
 have hS := St.nilDeep hS 25 27 kS27
 refine EW.lp (fun n a w => ∃ a4 : List (List S27), ∃ a1 : Int, ∃ a8 : Option Addr, ∃ a9 : Nat, Sat 149 [(0, sv b3 a2 a0), (1, ia a5), (2, ia a3), (3, ia a6), (4, .bool (a7)), (11, sv a8 a9 a4), (12, ia a1)] a ∧ St B w (Ass.deep 25 27 kS27 a8 a9 a4 :: os) (Ro.sl (Kd.int .u8) b3 a2 a0 :: rs) ∧ confidantseat_Code.l0 K a3 a0 a5 a6 a7 n a4 a1 = some d5) K (by kernel_rfl) ?_ (fun n a w hI => ?_)
 ·refine EQ.keep [0, 1, 2, 3, 4, 11, 12] [(0, sv b3 a2 a0), (1, ia a5), (2, ia a3), (3, ia a6), (4, .bool (a7)), (11, sv none 0 ([] : List (List S27))), (12, ia 0)] (by kernel_rfl) ?_
  exact fun a ha => ⟨([] : List (List S27)), 0, none, 0, ha, (hS.re [0] [] rfl (sub_cons 0 rfl (sub_tail (sub_self)))), H⟩
 obtain ⟨a4, a1, a8, a9, ha, hS, H⟩ := hI
 obtain _ | n := n
 ·simp [confidantseat_Code.l0] at H
 rw [confidantseat_Code.l0.eq_2] at H
 refine EW.at ?_ a ha
 clear ha a
 refine EW.sq (by kernel_rfl) ?_
 refine EW.sq (by kernel_rfl) ?_
 refine EW.rg (by kernel_rfl) ?_
 refine EL.quick 3 [0, 1, 2, 3, 4, 11, 12, 18] [(0, sv b3 a2 a0), (1, ia a5), (2, ia a3), (3, ia a6), (4, .bool (a7)), (11, sv a8 a9 a4), (12, ia a1), (18, .bool (decide (a1 < a3)))] (by kernel_rfl) ?_
 refine EL.done (by kernel_rfl) ?_
 refine EQ.code ?_
 refine EW.cdP (a1 < a3) (by kernel_rfl) (by kernel_rfl) (fun n3 => ?_) (fun n3 => ?_)
 ·rw [if_pos n3] at H
  refine EW.skip (by kernel_rfl) ?_
  refine EQ.code ?_
  obtain ⟨o2, t5, H⟩ := lt_out H
  refine EW.ct (fun a w => ∃ e4 : List (List S27), ∃ g3 : Option Addr, ∃ g5 : Nat, Sat 149 [(0, sv b3 a2 a0), (1, ia a5), (2, ia a3), (3, ia a6), (4, .bool (a7)), (11, sv g3 g5 e4), (12, ia a1)] a ∧ St B w (Ass.deep 25 27 kS27 g3 g5 e4 :: os) (Ro.sl (Kd.int .u8) b3 a2 a0 :: rs) ∧ o2 e4 = some d5) (by kernel_rfl) ?_ (fun a w hI => ?_)
  ·refine EW.bl 1 (by kernel_rfl) ?_
   refine EW.sq (by kernel_rfl) ?_
   refine EW.rg (by kernel_rfl) ?_
   refine EL.quick 1 [0, 1, 2, 3, 4, 11, 12, 13] [(0, sv b3 a2 a0), (1, ia a5), (2, ia a3), (3, ia a6), (4, .bool (a7)), (11, sv a8 a9 a4), (12, ia a1), (13, sv none 0 ([] : List S27))] (by kernel_rfl) ?_
   refine EL.done (by kernel_rfl) ?_
   refine EQ.code ?_
   obtain ⟨f2, t6, H⟩ := lt_out H
   refine EW.ct (fun a w => ∃ b7 : List S27, ∃ c0 : Option Addr, ∃ c1 : Nat, Sat 149 [(0, sv b3 a2 a0), (1, ia a5), (2, ia a3), (3, ia a6), (4, .bool (a7)), (11, sv a8 a9 a4), (12, ia a1), (13, sv c0 c1 b7)] a ∧ St B w (Ass.deep 25 27 kS27 a8 a9 a4 :: Ass.own 27 kS27 c0 c1 b7 :: os) (Ro.sl (Kd.int .u8) b3 a2 a0 :: rs) ∧ f2 b7 = some d5) (by kernel_rfl) ?_ (fun a w hI => ?_)
   ·refine EW.sq (by kernel_rfl) ?_
    refine EW.rg (by kernel_rfl) ?_
    refine EL.quick 3 [0, 1, 2, 3, 4, 11, 12, 13, 14] [(0, sv b3 a2 a0), (1, ia a5), (2, ia a3), (3, ia a6), (4, .bool (a7)), (11, sv a8 a9 a4), (12, ia a1), (13, sv none 0 ([] : List S27)), (14, ia (IntKind.i64.wrap (3 * a1)))] (by kernel_rfl) ?_
    refine EL.done (by kernel_rfl) ?_
    refine EQ.code ?_
    refine EW.bl 2 (by kernel_rfl) ?_
    have hS := St.nilO hS 27 kS27
    refine EW.lp (fun n a w => ∃ b4 : List S27, ∃ b0 : Int, ∃ b8 : Option Addr, ∃ b9 : Nat, Sat 149 [(0, sv b3 a2 a0), (1, ia a5), (2, ia a3), (3, ia a6), (4, .bool (a7)), (11, sv a8 a9 a4), (12, ia a1), (13, sv b8 b9 b4), (14, ia b0)] a ∧ St B w (Ass.deep 25 27 kS27 a8 a9 a4 :: Ass.own 27 kS27 b8 b9 b4 :: os) (Ro.sl (Kd.int .u8) b3 a2 a0 :: rs) ∧ confidantseat_Code.l1 K a3 a0 a5 a6 a7 f2 n b4 b0 = some d5) K (by kernel_rfl) ?_ (fun n a w hI => ?_)
    ·refine EQ.keep [0, 1, 2, 3, 4, 11, 12, 13, 14] [(0, sv b3 a2 a0), (1, ia a5), (2, ia a3), (3, ia a6), (4, .bool (a7)), (11, sv a8 a9 a4), (12, ia a1), (13, sv none 0 ([] : List S27)), (14, ia (IntKind.i64.wrap (3 * a1)))] (by kernel_rfl) ?_
     exact fun a ha => ⟨([] : List S27), IntKind.i64.wrap (3 * a1), none, 0, ha, (hS.re [0, 1] [] rfl (sub_cons 0 rfl (sub_tail (sub_self)))), H⟩
    obtain ⟨b4, b0, b8, b9, ha, hS, H⟩ := hI
    obtain _ | n := n
    ·simp [confidantseat_Code.l1] at H
    rw [confidantseat_Code.l1.eq_2] at H
    refine EW.at ?_ a ha
    clear ha a
    refine EW.sq (by kernel_rfl) ?_
    obtain ⟨m8, t7, H⟩ := lt_out H
    refine EW.ct (fun a w => ∃ i3 : Bool, Sat 149 [(0, sv b3 a2 a0), (1, ia a5), (2, ia a3), (3, ia a6), (4, .bool (a7)), (11, sv a8 a9 a4), (12, ia a1), (13, sv b8 b9 b4), (14, ia b0), (32, .bool (i3))] a ∧ St B w (Ass.deep 25 27 kS27 a8 a9 a4 :: Ass.own 27 kS27 b8 b9 b4 :: os) (Ro.sl (Kd.int .u8) b3 a2 a0 :: rs) ∧ m8 i3 = some d5) (by kernel_rfl) ?_ (fun a w hI => ?_)
    ·refine EW.rg (by kernel_rfl) ?_
     refine EL.quick 6 [0, 1, 2, 3, 4, 11, 12, 13, 14, 28] [(0, sv b3 a2 a0), (1, ia a5), (2, ia a3), (3, ia a6), (4, .bool (a7)), (11, sv a8 a9 a4), (12, ia a1), (13, sv b8 b9 b4), (14, ia b0), (28, .bool (decide ((IntKind.i64.wrap (b0 + 2)) < (a0.length : Int))))] (by kernel_rfl) ?_
     by_cases m1 : (IntKind.i64.wrap (b0 + 2)) < (a0.length : Int)
     ·rw [if_pos m1] at H
      refine EL.keep [0, 1, 2, 3, 4, 11, 12, 13, 14, 28] [(0, sv b3 a2 a0), (1, ia a5), (2, ia a3), (3, ia a6), (4, .bool (a7)), (11, sv a8 a9 a4), (12, ia a1), (13, sv b8 b9 b4), (14, ia b0), (28, .bool (decide ((IntKind.i64.wrap (b0 + 2)) < (a0.length : Int))))] (by kernel_rfl) ?_
      refine EL.as' [(0, sv b3 a2 a0), (1, ia a5), (2, ia a3), (3, ia a6), (4, .bool (a7)), (11, sv a8 a9 a4), (12, ia a1), (13, sv b8 b9 b4), (14, ia b0), (28, .bool (true))] (by simp only [sv, dec_t m1, Bool.not_true, Bool.not_false]) ?_
      refine EL.quick 4 [0, 1, 2, 3, 4, 11, 12, 13, 14, 29, 30, 31, 32] [(0, sv b3 a2 a0), (1, ia a5), (2, ia a3), (3, ia a6), (4, .bool (a7)), (11, sv a8 a9 a4), (12, ia a1), (13, sv b8 b9 b4), (14, ia b0), (29, sv b8 b9 b4), (30, ia (b4.length : Int)), (31, .bool (decide ((b4.length : Int) < 30))), (32, .bool (decide ((b4.length : Int) < 30)))] (by kernel_rfl) ?_
      refine EL.done (by kernel_rfl) ?_
      refine EQ.to ?_
      refine EQ.keep [0, 1, 2, 3, 4, 11, 12, 13, 14, 32] [(0, sv b3 a2 a0), (1, ia a5), (2, ia a3), (3, ia a6), (4, .bool (a7)), (11, sv a8 a9 a4), (12, ia a1), (13, sv b8 b9 b4), (14, ia b0), (32, .bool (decide ((b4.length : Int) < 30)))] (by kernel_rfl) ?_
      exact fun a ha => ⟨decide ((b4.length : Int) < 30), ha, (hS.re [1, 1] [] rfl (sub_cons 0 rfl (sub_tail (sub_self)))), H⟩
     rw [if_neg m1] at H
     refine EL.keep [0, 1, 2, 3, 4, 11, 12, 13, 14, 28] [(0, sv b3 a2 a0), (1, ia a5), (2, ia a3), (3, ia a6), (4, .bool (a7)), (11, sv a8 a9 a4), (12, ia a1), (13, sv b8 b9 b4), (14, ia b0), (28, .bool (decide ((IntKind.i64.wrap (b0 + 2)) < (a0.length : Int))))] (by kernel_rfl) ?_
     refine EL.as' [(0, sv b3 a2 a0), (1, ia a5), (2, ia a3), (3, ia a6), (4, .bool (a7)), (11, sv a8 a9 a4), (12, ia a1), (13, sv b8 b9 b4), (14, ia b0), (28, .bool (false))] (by simp only [sv, dec_f m1, Bool.not_true, Bool.not_false]) ?_
     refine EL.quick 4 [0, 1, 2, 3, 4, 11, 12, 13, 14, 32] [(0, sv b3 a2 a0), (1, ia a5), (2, ia a3), (3, ia a6), (4, .bool (a7)), (11, sv a8 a9 a4), (12, ia a1), (13, sv b8 b9 b4), (14, ia b0), (32, .bool (false))] (by kernel_rfl) ?_
     refine EL.done (by kernel_rfl) ?_
     refine EQ.to ?_
     refine EQ.keep [0, 1, 2, 3, 4, 11, 12, 13, 14, 32] [(0, sv b3 a2 a0), (1, ia a5), (2, ia a3), (3, ia a6), (4, .bool (a7)), (11, sv a8 a9 a4), (12, ia a1), (13, sv b8 b9 b4), (14, ia b0), (32, .bool (false))] (by kernel_rfl) ?_
     exact fun a ha => ⟨false, ha, (hS.re [1, 1] [] rfl (sub_cons 0 rfl (sub_tail (sub_self)))), H⟩
    obtain ⟨i3, ha, hS, H⟩ := hI
    rw [t7] at H
    (try dsimp only at H)
    refine EW.at ?_ a ha
    clear ha a
    refine EW.cdP' (i3) (by kernel_rfl) (by kernel_rfl) (fun n4 => ?_) (fun n4 => ?_)
    ·rw [if_pos n4] at H
     refine EW.skip (by kernel_rfl) ?_
     refine EQ.code ?_
     obtain ⟨m9, t8, H⟩ := lt_out H
     refine EW.ct (fun a w => ∃ n2 : List S27, ∃ e5 : List S27, ∃ o4 : Option Addr, ∃ o6 : Nat, ∃ g4 : Option Addr, ∃ g6 : Nat, Sat 149 [(0, sv b3 a2 a0), (1, ia a5), (2, ia a3), (3, ia a6), (4, .bool (a7)), (11, sv a8 a9 a4), (12, ia a1), (13, sv g4 g6 e5), (14, ia b0)] a ∧ St B w (Ass.own 27 kS27 o4 o6 n2 :: Ass.deep 25 27 kS27 a8 a9 a4 :: Ass.own 27 kS27 g4 g6 e5 :: os) (Ro.sl (Kd.int .u8) b3 a2 a0 :: rs) ∧ m9 n2 e5 = some d5) (by kernel_rfl) ?_ (fun a w hI => ?_)
     ·refine EW.bl 3 (by kernel_rfl) ?_
      refine EW.sq (by kernel_rfl) ?_
      obtain ⟨j8, H⟩ := ite_in H
      obtain ⟨j9, H⟩ := ite_in H
      obtain ⟨b5, rfl⟩ := St.rd_some hS (Rd.ro 0 rfl) j8 j9
      obtain ⟨m2, H⟩ := ite_in H
      obtain ⟨m3, H⟩ := ite_in H
      obtain ⟨m4, H⟩ := ite_in H
      obtain ⟨m5, H⟩ := ite_in H
      obtain ⟨b6, q2, H⟩ := b1_out H
      have hS := hS.drew
      refine EW.dr (B := B) [Ass.deep 25 27 kS27 a8 a9 a4, Ass.own 27 kS27 b8 b9 b4] [Ro.sl (Kd.int .u8) (some b5) a2 a0] (by kernel_rfl) (by kernel_rfl) ?_
      have hN : Region.noSelect Cd8.r.r.l.r.l.l.r.l.l.r.l.r.l.l.r.l.l.l.ops = true := (by kernel_rfl)
      have hF : freeAll Cd8.r.r.l.r.l.l.r.l.l.r.l.r.l.l.r.l.l.l.ops = true := (by kernel_rfl)
      have hC : Core B [Ass.deep 25 27 kS27 a8 a9 a4, Ass.own 27 kS27 b8 b9 b4] [Ro.sl (Kd.int .u8) (some b5) a2 a0] _ := ⟨_, _, hS⟩
      refine ED.quick hN hF hC [0, 1, 4, 5, 6, 9, 10, 11, 14, 15, 16, 17] [0, 1, 2, 3, 4, 11, 12, 13, 14, 37, 38, 41, 43, 46, 48, 51, 52, 53, 54] 8 [(0, sv (some b5) a2 a0), (1, ia a5), (2, ia a3), (3, ia a6), (4, .bool (a7)), (11, sv a8 a9 a4), (12, ia a1), (13, sv b8 b9 b4), (14, ia b0), (37, sv (some b5) a2 a0), (38, ia b0), (41, sv (some b5) a2 a0), (43, ia (IntKind.i64.wrap (b0 + 1))), (46, sv (some b5) a2 a0), (48, ia (IntKind.i64.wrap (b0 + 2))), (51, ia a5), (52, ia a3), (53, ia a6), (54, .bool (a7))] (bm 20 249459) (by kernel_rfl) (by kernel_rfl) ?_
      refine ED.Y hN hF hC 2 7 (bm 20 249463) (by kernel_rfl) (by kernel_rfl) rfl (fun _ _ _ hS => YO.idx 28 1 b5 a0.length a2 .i64 b0 39 (by kernel_rfl) (by kernel_rfl) (by kernel_rfl) (by kernel_rfl) j8 j9) ?_
      refine ED.Y hN hF hC 3 6 (bm 20 249471) (by kernel_rfl) (by kernel_rfl) rfl (fun _ _ _ hS => YO.loadEl hS (Kd.int .u8) b5 a2 a0 (Rd.ro 0 rfl) 0 (encI .u8) encI_of b0 j8 j9 5 1 0 1 rfl (ig (a0.getD b0.toNat 0)) 40 (by kernel_rfl) (by kernel_rfl) (by kernel_rfl) (by kernel_rfl)) ?_
      refine ED.Y hN hF hC 7 5 (bm 20 249599) (by kernel_rfl) (by kernel_rfl) rfl (fun _ _ _ hS => YO.idx 28 1 b5 a0.length a2 .i64 (IntKind.i64.wrap (b0 + 1)) 44 (by kernel_rfl) (by kernel_rfl) (by kernel_rfl) (by kernel_rfl) m2 m3) ?_
      refine ED.Y hN hF hC 8 4 (bm 20 249855) (by kernel_rfl) (by kernel_rfl) rfl (fun _ _ _ hS => YO.loadEl hS (Kd.int .u8) b5 a2 a0 (Rd.ro 0 rfl) 0 (encI .u8) encI_of (IntKind.i64.wrap (b0 + 1)) m2 m3 5 1 0 1 rfl (ig (a0.getD (IntKind.i64.wrap (b0 + 1)).toNat 0)) 45 (by kernel_rfl) (by kernel_rfl) (by kernel_rfl) (by kernel_rfl)) ?_
      refine ED.Y hN hF hC 12 3 (bm 20 253951) (by kernel_rfl) (by kernel_rfl) rfl (fun _ _ _ hS => YO.idx 28 1 b5 a0.length a2 .i64 (IntKind.i64.wrap (b0 + 2)) 49 (by kernel_rfl) (by kernel_rfl) (by kernel_rfl) (by kernel_rfl) m4 m5) ?_
      refine ED.Y hN hF hC 13 2 (bm 20 262143) (by kernel_rfl) (by kernel_rfl) rfl (fun _ _ _ hS => YO.loadEl hS (Kd.int .u8) b5 a2 a0 (Rd.ro 0 rfl) 0 (encI .u8) encI_of (IntKind.i64.wrap (b0 + 2)) m4 m5 5 1 0 1 rfl (ig (a0.getD (IntKind.i64.wrap (b0 + 2)).toNat 0)) 50 (by kernel_rfl) (by kernel_rfl) (by kernel_rfl) (by kernel_rfl)) ?_
      have hq := confidantseat_piece.calls q2 hS
      refine ED.one 18 1 (bm 20 524287) (by kernel_rfl) (by kernel_rfl) (by kernel_rfl) (EO.callD 19 [ig (a0.getD b0.toNat 0), ig (a0.getD (IntKind.i64.wrap (b0 + 1)).toNat 0), ig (a0.getD (IntKind.i64.wrap (b0 + 2)).toNat 0), ia a5, ia a3, ia a6, .bool (a7)] _ 55 (by kernel_rfl) (by kernel_rfl) (by kernel_rfl) hq ?_)
      rintro v w ⟨c2, c3, rfl, hS⟩
      have hC := hC.again ⟨_, _, hS.re [2, 2] [] rfl sub_self⟩
      refine ⟨hC, ?_⟩
      refine ED.quick hN hF hC [19] [0, 1, 2, 3, 4, 11, 12, 13, 14, 15] 0 [(0, sv (some b5) a2 a0), (1, ia a5), (2, ia a3), (3, ia a6), (4, .bool (a7)), (11, sv a8 a9 a4), (12, ia a1), (13, sv b8 b9 b4), (14, ia b0), (15, sv c2 c3 b6)] (bm 20 1048575) (by kernel_rfl) (by kernel_rfl) ?_
      refine ED.done (by kernel_rfl) ?_
      refine EQ.code ?_
      obtain ⟨n0, t9, H⟩ := lt_out H
      refine EW.ct (fun a w => ∃ e6 : List S27, ∃ i5 : Option Addr, ∃ j1 : Nat, Sat 149 [(0, sv (some b5) a2 a0), (1, ia a5), (2, ia a3), (3, ia a6), (4, .bool (a7)), (11, sv a8 a9 a4), (12, ia a1), (13, sv i5 j1 e6), (14, ia b0), (15, sv c2 c3 b6)] a ∧ St B w (Ass.own 27 kS27 c2 c3 b6 :: Ass.deep 25 27 kS27 a8 a9 a4 :: Ass.own 27 kS27 i5 j1 e6 :: os) (Ro.sl (Kd.int .u8) (some b5) a2 a0 :: rs) ∧ n0 e6 = some d5) (by kernel_rfl) ?_ (fun a w hI => ?_)
      ·refine EW.sq (by kernel_rfl) ?_
       refine EW.rg (by kernel_rfl) ?_
       refine EL.quick 3 [0, 1, 2, 3, 4, 11, 12, 13, 14, 15, 56, 58] [(0, sv (some b5) a2 a0), (1, ia a5), (2, ia a3), (3, ia a6), (4, .bool (a7)), (11, sv a8 a9 a4), (12, ia a1), (13, sv b8 b9 b4), (14, ia b0), (15, sv c2 c3 b6), (56, sv (some b5) a2 a0), (58, ia (IntKind.i64.wrap (b0 + 1)))] (by kernel_rfl) ?_
       refine EL.of (EO.Y (YO.idx 28 1 b5 a0.length a2 .i64 (IntKind.i64.wrap (b0 + 1)) 59 (by kernel_rfl) (by kernel_rfl) (by kernel_rfl) (by kernel_rfl) m2 m3) ?_)
       refine EL.of (EO.Y (YO.loadEl hS (Kd.int .u8) b5 a2 a0 (Rd.ro 0 rfl) 0 (encI .u8) encI_of (IntKind.i64.wrap (b0 + 1)) m2 m3 5 1 0 1 rfl (ig (a0.getD (IntKind.i64.wrap (b0 + 1)).toNat 0)) 60 (by kernel_rfl) (by kernel_rfl) (by kernel_rfl) (by kernel_rfl)) ?_)
       refine EL.quick 2 [0, 1, 2, 3, 4, 11, 12, 13, 14, 15, 62] [(0, sv (some b5) a2 a0), (1, ia a5), (2, ia a3), (3, ia a6), (4, .bool (a7)), (11, sv a8 a9 a4), (12, ia a1), (13, sv b8 b9 b4), (14, ia b0), (15, sv c2 c3 b6), (62, .bool (decide ((Int.tmod (a0.getD (IntKind.i64.wrap (b0 + 1)).toNat 0) 5) = 4)))] (by kernel_rfl) ?_
       refine EL.done (by kernel_rfl) ?_
       refine EQ.code ?_
       refine EW.cdP ((Int.tmod (a0.getD (IntKind.i64.wrap (b0 + 1)).toNat 0) 5) = 4) (by kernel_rfl) (by kernel_rfl) (fun n5 => ?_) (fun n5 => ?_)
       ·rw [if_pos n5] at H
        refine EW.rg (by kernel_rfl) ?_
        refine EL.quick 4 [0, 1, 2, 3, 4, 11, 12, 13, 14, 15, 63, 64, 66] [(0, sv (some b5) a2 a0), (1, ia a5), (2, ia a3), (3, ia a6), (4, .bool (a7)), (11, sv a8 a9 a4), (12, ia a1), (13, sv b8 b9 b4), (14, ia b0), (15, sv c2 c3 b6), (63, sv b8 b9 b4), (64, sv (some b5) a2 a0), (66, ia (IntKind.i64.wrap (b0 + 2)))] (by kernel_rfl) ?_
        refine EL.of (EO.Y (YO.idx 28 1 b5 a0.length a2 .i64 (IntKind.i64.wrap (b0 + 2)) 67 (by kernel_rfl) (by kernel_rfl) (by kernel_rfl) (by kernel_rfl) m4 m5) ?_)
        refine EL.of (EO.Y (YO.loadEl hS (Kd.int .u8) b5 a2 a0 (Rd.ro 0 rfl) 0 (encI .u8) encI_of (IntKind.i64.wrap (b0 + 2)) m4 m5 5 1 0 1 rfl (ig (a0.getD (IntKind.i64.wrap (b0 + 2)).toNat 0)) 68 (by kernel_rfl) (by kernel_rfl) (by kernel_rfl) (by kernel_rfl)) ?_)
        refine EL.quick 2 [0, 1, 2, 3, 4, 11, 12, 13, 14, 15, 63, 70] [(0, sv (some b5) a2 a0), (1, ia a5), (2, ia a3), (3, ia a6), (4, .bool (a7)), (11, sv a8 a9 a4), (12, ia a1), (13, sv b8 b9 b4), (14, ia b0), (15, sv c2 c3 b6), (63, sv b8 b9 b4), (70, ia (IntKind.i64.wrap (Int.tmod (a0.getD (IntKind.i64.wrap (b0 + 2)).toNat 0) 4)))] (by kernel_rfl) ?_
        obtain ⟨f8, e7, q3, H⟩ := b2_out H
        have hq := confidantseat_in.calls q3 hS
        refine EL.of (EO.callD 20 [ia 12, ia (IntKind.i64.wrap (Int.tmod (a0.getD (IntKind.i64.wrap (b0 + 2)).toNat 0) 4))] _ 71 (by kernel_rfl) (by kernel_rfl) (by kernel_rfl) hq ?_)
        rintro v w ⟨rfl, hS⟩
        refine EL.quick 6 [0, 1, 2, 3, 4, 11, 12, 14, 15, 63, 71, 77] [(0, sv (some b5) a2 a0), (1, ia a5), (2, ia a3), (3, ia a6), (4, .bool (a7)), (11, sv a8 a9 a4), (12, ia a1), (14, ia b0), (15, sv c2 c3 b6), (63, sv b8 b9 b4), (71, ag [ia f8, ib e7]), (77, ia (IntKind.i64.wrap ((IntKind.i64.wrap ((b4.length : Int) + 2)) + (b6.length : Int))))] (by kernel_rfl) ?_
        obtain ⟨f9, e8, q4, H⟩ := b2_out H
        have hq := confidantseat_in.calls q4 hS
        refine EL.of (EO.callD 20 [ia 11, ia (IntKind.i64.wrap ((IntKind.i64.wrap ((b4.length : Int) + 2)) + (b6.length : Int)))] _ 78 (by kernel_rfl) (by kernel_rfl) (by kernel_rfl) hq ?_)
        rintro v w ⟨rfl, hS⟩
        obtain ⟨g7, p2, H⟩ := lt_out H
        refine EL.of (EO.lit hS kS27 27 25 2 #[(0, ag [ia f8, ib e7]), (1, ag [ia f9, ib e8])] [ia f8, ib e7, ia f9, ib e8] g7 79 (by kernel_rfl) (by kernel_rfl) (by kernel_rfl) (fun _ => (by kernel_rfl)) (by rw [p2]; rfl) (by kernel_rfl) (fun w G hr => (by rw [p2]; exact ⟨[ia f8, ib e7], [ia f9, ib e8], rfl, ⟨[ia f8], [ib e7], rfl, rfl, ⟨[ib e7], [], rfl, rfl, rfl⟩⟩, ⟨[ia f9, ib e8], [], rfl, ⟨[ia f9], [ib e8], rfl, rfl, ⟨[ib e8], [], rfl, rfl, rfl⟩⟩, rfl⟩⟩)) ?_)
        intro o7 w hS
        obtain ⟨p6, H⟩ := ite_in H
        obtain ⟨f3, u2, H⟩ := lt_out H
        refine EL.of (EO.append hS 25 25 27 16 3 kS27 b8 b9 b4 rfl (some ⟨o7, 0, none⟩) 2 g7 (Rd.own 0 27 rfl) f3 u2 (fun i6 j2 => Ass.own 27 kS27 (some ⟨o7, 0, none⟩) 2 g7 :: Ass.own 27 kS27 c2 c3 b6 :: Ass.deep 25 27 kS27 a8 a9 a4 :: Ass.own 27 kS27 i6 j2 f3 :: os) 80 (by kernel_rfl) (by kernel_rfl) (by kernel_rfl) (by kernel_rfl) p6 (fun _ _ => rfl) ?_)
        intro i6 j2 w hS
        refine EL.quick 1 [0, 1, 2, 3, 4, 11, 12, 13, 14, 15] [(0, sv (some b5) a2 a0), (1, ia a5), (2, ia a3), (3, ia a6), (4, .bool (a7)), (11, sv a8 a9 a4), (12, ia a1), (13, sv i6 j2 f3), (14, ia b0), (15, sv c2 c3 b6)] (by kernel_rfl) ?_
        refine EL.done (by kernel_rfl) ?_
        refine EQ.to ?_
        refine EQ.keep [0, 1, 2, 3, 4, 11, 12, 13, 14, 15] [(0, sv (some b5) a2 a0), (1, ia a5), (2, ia a3), (3, ia a6), (4, .bool (a7)), (11, sv a8 a9 a4), (12, ia a1), (13, sv i6 j2 f3), (14, ia b0), (15, sv c2 c3 b6)] (by kernel_rfl) ?_
        exact fun a ha => ⟨f3, i6, j2, ha, (hS.re [3, 3, 3] [3] rfl (sub_cons 0 rfl (sub_tail (sub_self)))), H⟩
       rw [if_neg n5] at H
       refine EW.skip (by kernel_rfl) ?_
       refine EQ.to ?_
       refine EQ.keep [0, 1, 2, 3, 4, 11, 12, 13, 14, 15] [(0, sv (some b5) a2 a0), (1, ia a5), (2, ia a3), (3, ia a6), (4, .bool (a7)), (11, sv a8 a9 a4), (12, ia a1), (13, sv b8 b9 b4), (14, ia b0), (15, sv c2 c3 b6)] (by kernel_rfl) ?_
       exact fun a ha => ⟨b4, b8, b9, ha, (hS.re [2, 2, 2] [] rfl (sub_cons 0 rfl (sub_tail (sub_self)))), H⟩
      obtain ⟨e6, i5, j1, ha, hS, H⟩ := hI
      rw [t9] at H
      (try dsimp only at H)
      refine EW.at ?_ a ha
      clear ha a
      refine EW.sq (by kernel_rfl) ?_
      refine EW.rg (by kernel_rfl) ?_
      refine EL.quick 2 [0, 1, 2, 3, 4, 11, 12, 14, 15, 81, 82] [(0, sv (some b5) a2 a0), (1, ia a5), (2, ia a3), (3, ia a6), (4, .bool (a7)), (11, sv a8 a9 a4), (12, ia a1), (14, ia b0), (15, sv c2 c3 b6), (81, sv i5 j1 e6), (82, sv c2 c3 b6)] (by kernel_rfl) ?_
      obtain ⟨p7, H⟩ := ite_in H
      obtain ⟨c4, u3, H⟩ := lt_out H
      refine EL.of (EO.append hS 25 25 27 16 2 kS27 i5 j1 e6 rfl c2 c3 b6 (Rd.own 0 27 rfl) c4 u3 (fun c6 c7 => Ass.own 27 kS27 c2 c3 b6 :: Ass.deep 25 27 kS27 a8 a9 a4 :: Ass.own 27 kS27 c6 c7 c4 :: os) 83 (by kernel_rfl) (by kernel_rfl) (by kernel_rfl) (by kernel_rfl) p7 (fun _ _ => rfl) ?_)
      intro c6 c7 w hS
      refine EL.quick 1 [0, 1, 2, 3, 4, 11, 12, 13, 14, 15] [(0, sv (some b5) a2 a0), (1, ia a5), (2, ia a3), (3, ia a6), (4, .bool (a7)), (11, sv a8 a9 a4), (12, ia a1), (13, sv c6 c7 c4), (14, ia b0), (15, sv c2 c3 b6)] (by kernel_rfl) ?_
      refine EL.done (by kernel_rfl) ?_
      refine EQ.code ?_
      refine EW.sq (by kernel_rfl) ?_
      refine EW.rg (by kernel_rfl) ?_
      refine EL.quick 2 [0, 1, 2, 3, 4, 11, 12, 13, 14, 15, 84, 85] [(0, sv (some b5) a2 a0), (1, ia a5), (2, ia a3), (3, ia a6), (4, .bool (a7)), (11, sv a8 a9 a4), (12, ia a1), (13, sv c6 c7 c4), (14, ia b0), (15, sv c2 c3 b6), (84, sv (some b5) a2 a0), (85, ia b0)] (by kernel_rfl) ?_
      refine EL.of (EO.Y (YO.idx 28 1 b5 a0.length a2 .i64 b0 86 (by kernel_rfl) (by kernel_rfl) (by kernel_rfl) (by kernel_rfl) j8 j9) ?_)
      refine EL.of (EO.Y (YO.loadEl hS (Kd.int .u8) b5 a2 a0 (Rd.ro 0 rfl) 0 (encI .u8) encI_of b0 j8 j9 5 1 0 1 rfl (ig (a0.getD b0.toNat 0)) 87 (by kernel_rfl) (by kernel_rfl) (by kernel_rfl) (by kernel_rfl)) ?_)
      refine EL.quick 2 [0, 1, 2, 3, 4, 11, 12, 13, 14, 15, 89] [(0, sv (some b5) a2 a0), (1, ia a5), (2, ia a3), (3, ia a6), (4, .bool (a7)), (11, sv a8 a9 a4), (12, ia a1), (13, sv c6 c7 c4), (14, ia b0), (15, sv c2 c3 b6), (89, .bool (decide ((Int.tmod (a0.getD b0.toNat 0) 16) = 14)))] (by kernel_rfl) ?_
      refine EL.done (by kernel_rfl) ?_
      refine EQ.code ?_
      refine EW.cdP ((Int.tmod (a0.getD b0.toNat 0) 16) = 14) (by kernel_rfl) (by kernel_rfl) (fun n6 => ?_) (fun n6 => ?_)
      ·rw [if_pos n6] at H
       refine EW.rg (by kernel_rfl) ?_
       refine EL.quick 1 [0, 1, 2, 3, 4, 11, 12, 13, 14, 15, 90] [(0, sv (some b5) a2 a0), (1, ia a5), (2, ia a3), (3, ia a6), (4, .bool (a7)), (11, sv a8 a9 a4), (12, ia a1), (13, sv c6 c7 c4), (14, ia b0), (15, sv c2 c3 b6), (90, sv c6 c7 c4)] (by kernel_rfl) ?_
       obtain ⟨e9, e2, q5, H⟩ := b2_out H
       have hq := confidantseat_in.calls q5 hS
       refine EL.of (EO.callD 20 [ia 12, ia 1] _ 91 (by kernel_rfl) (by kernel_rfl) (by kernel_rfl) hq ?_)
       rintro v w ⟨rfl, hS⟩
       obtain ⟨e3, d8, q6, H⟩ := b2_out H
       have hq := confidantseat_in.calls q6 hS
       refine EL.of (EO.callD 20 [ia 1, ia 1] _ 92 (by kernel_rfl) (by kernel_rfl) (by kernel_rfl) hq ?_)
       rintro v w ⟨rfl, hS⟩
       obtain ⟨d9, d6, q7, H⟩ := b2_out H
       have hq := confidantseat_in.calls q7 hS
       refine EL.of (EO.callD 20 [ia 5, ia 0] _ 93 (by kernel_rfl) (by kernel_rfl) (by kernel_rfl) hq ?_)
       rintro v w ⟨rfl, hS⟩
       obtain ⟨d7, d1, q8, H⟩ := b2_out H
       have hq := confidantseat_in.calls q8 hS
       refine EL.of (EO.callD 20 [ia 13, ia 1] _ 94 (by kernel_rfl) (by kernel_rfl) (by kernel_rfl) hq ?_)
       rintro v w ⟨rfl, hS⟩
       obtain ⟨d2, c8, q9, H⟩ := b2_out H
       have hq := confidantseat_in.calls q9 hS
       refine EL.of (EO.callD 20 [ia 12, ia 1] _ 95 (by kernel_rfl) (by kernel_rfl) (by kernel_rfl) hq ?_)
       rintro v w ⟨rfl, hS⟩
       refine EL.quick 3 [0, 1, 2, 3, 4, 11, 12, 13, 14, 15, 90, 91, 92, 93, 94, 95, 98] [(0, sv (some b5) a2 a0), (1, ia a5), (2, ia a3), (3, ia a6), (4, .bool (a7)), (11, sv a8 a9 a4), (12, ia a1), (13, sv c6 c7 c4), (14, ia b0), (15, sv c2 c3 b6), (90, sv c6 c7 c4), (91, ag [ia e9, ib e2]), (92, ag [ia e3, ib d8]), (93, ag [ia d9, ib d6]), (94, ag [ia d7, ib d1]), (95, ag [ia d2, ib c8]), (98, ia (IntKind.i64.wrap ((c4.length : Int) + 7)))] (by kernel_rfl) ?_
       obtain ⟨d3, c9, t0, H⟩ := b2_out H
       have hq := confidantseat_in.calls t0 hS
       refine EL.of (EO.callD 20 [ia 11, ia (IntKind.i64.wrap ((c4.length : Int) + 7))] _ 99 (by kernel_rfl) (by kernel_rfl) (by kernel_rfl) hq ?_)
       rintro v w ⟨rfl, hS⟩
       refine EL.quick 7 [0, 1, 2, 3, 4, 11, 12, 14, 90, 91, 92, 93, 94, 95, 99, 106] [(0, sv (some b5) a2 a0), (1, ia a5), (2, ia a3), (3, ia a6), (4, .bool (a7)), (11, sv a8 a9 a4), (12, ia a1), (14, ia b0), (90, sv c6 c7 c4), (91, ag [ia e9, ib e2]), (92, ag [ia e3, ib d8]), (93, ag [ia d9, ib d6]), (94, ag [ia d7, ib d1]), (95, ag [ia d2, ib c8]), (99, ag [ia d3, ib c9]), (106, ia (mx (IntKind.i64.wrap ((IntKind.i64.wrap ((c4.length : Int) - (b6.length : Int))) + 2)) 0))] (by kernel_rfl) ?_
       obtain ⟨d4, d0, t1, H⟩ := b2_out H
       have hq := confidantseat_in.calls t1 hS
       refine EL.of (EO.callD 20 [ia 10, ia (mx (IntKind.i64.wrap ((IntKind.i64.wrap ((c4.length : Int) - (b6.length : Int))) + 2)) 0)] _ 107 (by kernel_rfl) (by kernel_rfl) (by kernel_rfl) hq ?_)
       rintro v w ⟨rfl, hS⟩
       obtain ⟨g8, p3, H⟩ := lt_out H
       refine EL.of (EO.lit hS kS27 27 25 7 #[(0, ag [ia e9, ib e2]), (1, ag [ia e3, ib d8]), (2, ag [ia d9, ib d6]), (3, ag [ia d7, ib d1]), (4, ag [ia d2, ib c8]), (5, ag [ia d3, ib c9]), (6, ag [ia d4, ib d0])] [ia e9, ib e2, ia e3, ib d8, ia d9, ib d6, ia d7, ib d1, ia d2, ib c8, ia d3, ib c9, ia d4, ib d0] g8 108 (by kernel_rfl) (by kernel_rfl) (by kernel_rfl) (fun _ => (by kernel_rfl)) (by rw [p3]; rfl) (by kernel_rfl) (fun w G hr => (by rw [p3]; exact ⟨[ia e9, ib e2], [ia e3, ib d8, ia d9, ib d6, ia d7, ib d1, ia d2, ib c8, ia d3, ib c9, ia d4, ib d0], rfl, ⟨[ia e9], [ib e2], rfl, rfl, ⟨[ib e2], [], rfl, rfl, rfl⟩⟩, ⟨[ia e3, ib d8], [ia d9, ib d6, ia d7, ib d1, ia d2, ib c8, ia d3, ib c9, ia d4, ib d0], rfl, ⟨[ia e3], [ib d8], rfl, rfl, ⟨[ib d8], [], rfl, rfl, rfl⟩⟩, ⟨[ia d9, ib d6], [ia d7, ib d1, ia d2, ib c8, ia d3, ib c9, ia d4, ib d0], rfl, ⟨[ia d9], [ib d6], rfl, rfl, ⟨[ib d6], [], rfl, rfl, rfl⟩⟩, ⟨[ia d7, ib d1], [ia d2, ib c8, ia d3, ib c9, ia d4, ib d0], rfl, ⟨[ia d7], [ib d1], rfl, rfl, ⟨[ib d1], [], rfl, rfl, rfl⟩⟩, ⟨[ia d2, ib c8], [ia d3, ib c9, ia d4, ib d0], rfl, ⟨[ia d2], [ib c8], rfl, rfl, ⟨[ib c8], [], rfl, rfl, rfl⟩⟩, ⟨[ia d3, ib c9], [ia d4, ib d0], rfl, ⟨[ia d3], [ib c9], rfl, rfl, ⟨[ib c9], [], rfl, rfl, rfl⟩⟩, ⟨[ia d4, ib d0], [], rfl, ⟨[ia d4], [ib d0], rfl, rfl, ⟨[ib d0], [], rfl, rfl, rfl⟩⟩, rfl⟩⟩⟩⟩⟩⟩⟩)) ?_)
       intro o8 w hS
       obtain ⟨p8, H⟩ := ite_in H
       obtain ⟨f4, u4, H⟩ := lt_out H
       refine EL.of (EO.append hS 25 25 27 16 3 kS27 c6 c7 c4 rfl (some ⟨o8, 0, none⟩) 7 g8 (Rd.own 0 27 rfl) f4 u4 (fun i7 j3 => Ass.own 27 kS27 (some ⟨o8, 0, none⟩) 7 g8 :: Ass.own 27 kS27 c2 c3 b6 :: Ass.deep 25 27 kS27 a8 a9 a4 :: Ass.own 27 kS27 i7 j3 f4 :: os) 109 (by kernel_rfl) (by kernel_rfl) (by kernel_rfl) (by kernel_rfl) p8 (fun _ _ => rfl) ?_)
       intro i7 j3 w hS
       refine EL.quick 1 [0, 1, 2, 3, 4, 11, 12, 13, 14] [(0, sv (some b5) a2 a0), (1, ia a5), (2, ia a3), (3, ia a6), (4, .bool (a7)), (11, sv a8 a9 a4), (12, ia a1), (13, sv i7 j3 f4), (14, ia b0)] (by kernel_rfl) ?_
       refine EL.done (by kernel_rfl) ?_
       refine EQ.pop ?_
       refine EQ.to ?_
       refine EQ.keep [0, 1, 2, 3, 4, 11, 12, 13, 14] [(0, sv (some b5) a2 a0), (1, ia a5), (2, ia a3), (3, ia a6), (4, .bool (a7)), (11, sv a8 a9 a4), (12, ia a1), (13, sv i7 j3 f4), (14, ia b0)] (by kernel_rfl) ?_
       exact fun a ha => ⟨b6, f4, c2, c3, i7, j3, ha, (hS.re [3, 3, 3] [3] rfl (sub_cons 0 rfl (sub_tail (sub_self)))), H⟩
      rw [if_neg n6] at H
      refine EW.skip (by kernel_rfl) ?_
      refine EQ.pop ?_
      refine EQ.to ?_
      refine EQ.keep [0, 1, 2, 3, 4, 11, 12, 13, 14] [(0, sv (some b5) a2 a0), (1, ia a5), (2, ia a3), (3, ia a6), (4, .bool (a7)), (11, sv a8 a9 a4), (12, ia a1), (13, sv c6 c7 c4), (14, ia b0)] (by kernel_rfl) ?_
      exact fun a ha => ⟨b6, c4, c2, c3, c6, c7, ha, (hS.re [2, 2, 2] [] rfl (sub_cons 0 rfl (sub_tail (sub_self)))), H⟩
     obtain ⟨n2, e5, o4, o6, g4, g6, ha, hS, H⟩ := hI
     rw [t8] at H
     (try dsimp only at H)
     refine EW.at ?_ a ha
     clear ha a
     refine EW.rg (by kernel_rfl) ?_
     refine EL.quick 5 [0, 1, 2, 3, 4, 11, 12, 13, 14] [(0, sv b3 a2 a0), (1, ia a5), (2, ia a3), (3, ia a6), (4, .bool (a7)), (11, sv a8 a9 a4), (12, ia a1), (13, sv g4 g6 e5), (14, ia (IntKind.i64.wrap (b0 + (IntKind.i64.wrap (3 * a3)))))] (by kernel_rfl) ?_
     refine EL.done (by kernel_rfl) ?_
     refine EQ.to ?_
     refine EQ.keep [0, 1, 2, 3, 4, 11, 12, 13, 14] [(0, sv b3 a2 a0), (1, ia a5), (2, ia a3), (3, ia a6), (4, .bool (a7)), (11, sv a8 a9 a4), (12, ia a1), (13, sv g4 g6 e5), (14, ia (IntKind.i64.wrap (b0 + (IntKind.i64.wrap (3 * a3)))))] (by kernel_rfl) ?_
     exact fun a ha => ⟨n, Nat.lt_succ_self n, e5, IntKind.i64.wrap (b0 + (IntKind.i64.wrap (3 * a3))), g4, g6, ha, (hS.re [2, 2] [2] rfl (sub_cons 0 rfl (sub_tail (sub_self)))), H⟩
    rw [if_neg n4] at H
    refine EW.exit (id := 2) (by kernel_rfl) ?_
    refine EQ.exitCode ?_
    refine EQ.exitTo ?_
    refine EQ.exitHere ?_
    refine EQ.to ?_
    refine EQ.keep [0, 1, 2, 3, 4, 11, 12, 13] [(0, sv b3 a2 a0), (1, ia a5), (2, ia a3), (3, ia a6), (4, .bool (a7)), (11, sv a8 a9 a4), (12, ia a1), (13, sv b8 b9 b4)] (by kernel_rfl) ?_
    exact fun a ha => ⟨b4, b8, b9, ha, (hS.re [1, 1] [] rfl (sub_cons 0 rfl (sub_tail (sub_self)))), H⟩
   obtain ⟨b7, c0, c1, ha, hS, H⟩ := hI
   rw [t6] at H
   (try dsimp only at H)
   refine EW.at ?_ a ha
   clear ha a
   obtain ⟨n1, u0, H⟩ := lt_out H
   refine EW.ct (fun a w => ∃ c5 : List S27, ∃ e0 : Option Addr, ∃ e1 : Nat, Sat 149 [(0, sv b3 a2 a0), (1, ia a5), (2, ia a3), (3, ia a6), (4, .bool (a7)), (11, sv a8 a9 a4), (12, ia a1), (13, sv e0 e1 c5)] a ∧ St B w (Ass.deep 25 27 kS27 a8 a9 a4 :: Ass.own 27 kS27 e0 e1 c5 :: os) (Ro.sl (Kd.int .u8) b3 a2 a0 :: rs) ∧ n1 c5 = some d5) (by kernel_rfl) ?_ (fun a w hI => ?_)
   ·obtain ⟨m0, u1, H⟩ := lt_out H
    refine EW.ct (fun a w => ∃ i4 : Bool, Sat 149 [(0, sv b3 a2 a0), (1, ia a5), (2, ia a3), (3, ia a6), (4, .bool (a7)), (11, sv a8 a9 a4), (12, ia a1), (13, sv c0 c1 b7), (126, .bool (i4))] a ∧ St B w (Ass.deep 25 27 kS27 a8 a9 a4 :: Ass.own 27 kS27 c0 c1 b7 :: os) (Ro.sl (Kd.int .u8) b3 a2 a0 :: rs) ∧ m0 i4 = some d5) (by kernel_rfl) ?_ (fun a w hI => ?_)
    ·refine EW.rg (by kernel_rfl) ?_
     refine EL.quick 4 [0, 1, 2, 3, 4, 11, 12, 13, 113] [(0, sv b3 a2 a0), (1, ia a5), (2, ia a3), (3, ia a6), (4, .bool (a7)), (11, sv a8 a9 a4), (12, ia a1), (13, sv c0 c1 b7), (113, .bool (decide ((Int.tmod a1 3) = 2)))] (by kernel_rfl) ?_
     by_cases m6 : (Int.tmod a1 3) = 2
     ·rw [if_pos m6] at H
      refine EL.keep [0, 1, 2, 3, 4, 11, 12, 13, 113] [(0, sv b3 a2 a0), (1, ia a5), (2, ia a3), (3, ia a6), (4, .bool (a7)), (11, sv a8 a9 a4), (12, ia a1), (13, sv c0 c1 b7), (113, .bool (decide ((Int.tmod a1 3) = 2)))] (by kernel_rfl) ?_
      refine EL.as' [(0, sv b3 a2 a0), (1, ia a5), (2, ia a3), (3, ia a6), (4, .bool (a7)), (11, sv a8 a9 a4), (12, ia a1), (13, sv c0 c1 b7), (113, .bool (true))] (by simp only [sv, dec_t m6, Bool.not_true, Bool.not_false]) ?_
      refine EL.quick 6 [0, 1, 2, 3, 4, 11, 12, 13, 114, 115, 116, 117, 119] [(0, sv b3 a2 a0), (1, ia a5), (2, ia a3), (3, ia a6), (4, .bool (a7)), (11, sv a8 a9 a4), (12, ia a1), (13, sv c0 c1 b7), (114, sv b3 a2 a0), (115, ia (a0.length : Int)), (116, ia a1), (117, .bool (decide ((a0.length : Int) > a1))), (119, .bool (decide ((a0.length : Int) > a1)))] (by kernel_rfl) ?_
      by_cases m7 : (a0.length : Int) > a1
      ·rw [if_pos m7] at H
       refine EL.keep [0, 1, 2, 3, 4, 11, 12, 13, 114, 115, 116, 117, 119] [(0, sv b3 a2 a0), (1, ia a5), (2, ia a3), (3, ia a6), (4, .bool (a7)), (11, sv a8 a9 a4), (12, ia a1), (13, sv c0 c1 b7), (114, sv b3 a2 a0), (115, ia (a0.length : Int)), (116, ia a1), (117, .bool (decide ((a0.length : Int) > a1))), (119, .bool (decide ((a0.length : Int) > a1)))] (by kernel_rfl) ?_
       refine EL.as' [(0, sv b3 a2 a0), (1, ia a5), (2, ia a3), (3, ia a6), (4, .bool (a7)), (11, sv a8 a9 a4), (12, ia a1), (13, sv c0 c1 b7), (114, sv b3 a2 a0), (115, ia (a0.length : Int)), (116, ia a1), (117, .bool (true)), (119, .bool (true))] (by simp only [sv, dec_t m7, Bool.not_true, Bool.not_false]) ?_
       refine EL.quick 2 [0, 1, 2, 3, 4, 11, 12, 13, 114, 115, 116, 117, 119, 120, 121] [(0, sv b3 a2 a0), (1, ia a5), (2, ia a3), (3, ia a6), (4, .bool (a7)), (11, sv a8 a9 a4), (12, ia a1), (13, sv c0 c1 b7), (114, sv b3 a2 a0), (115, ia (a0.length : Int)), (116, ia a1), (117, .bool (true)), (119, .bool (true)), (120, sv b3 a2 a0), (121, ia a1)] (by kernel_rfl) ?_
       obtain ⟨n7, H⟩ := ite_in H
       obtain ⟨n8, H⟩ := ite_in H
       obtain ⟨f1, rfl⟩ := St.rd_some hS (Rd.ro 0 rfl) n7 n8
       refine EL.of (EO.Y (YO.idx 28 1 f1 a0.length a2 .i64 a1 122 (by kernel_rfl) (by kernel_rfl) (by kernel_rfl) (by kernel_rfl) n7 n8) ?_)
       refine EL.of (EO.Y (YO.loadEl hS (Kd.int .u8) f1 a2 a0 (Rd.ro 0 rfl) 0 (encI .u8) encI_of a1 n7 n8 5 1 0 1 rfl (ig (a0.getD a1.toNat 0)) 123 (by kernel_rfl) (by kernel_rfl) (by kernel_rfl) (by kernel_rfl)) ?_)
       refine EL.quick 3 [0, 1, 2, 3, 4, 11, 12, 13, 114, 115, 116, 117, 120, 121, 122, 123, 124, 125, 126] [(0, sv (some f1) a2 a0), (1, ia a5), (2, ia a3), (3, ia a6), (4, .bool (a7)), (11, sv a8 a9 a4), (12, ia a1), (13, sv c0 c1 b7), (114, sv (some f1) a2 a0), (115, ia (a0.length : Int)), (116, ia a1), (117, .bool (true)), (120, sv (some f1) a2 a0), (121, ia a1), (122, .pointer (some ((f1.add (a1.toNat * 1)).add 0))), (123, ig (a0.getD a1.toNat 0)), (124, ig (Int.tmod (a0.getD a1.toNat 0) 8)), (125, .bool (decide ((Int.tmod (a0.getD a1.toNat 0) 8) = 0))), (126, .bool (decide ((Int.tmod (a0.getD a1.toNat 0) 8) = 0)))] (by kernel_rfl) ?_
       refine EL.done (by kernel_rfl) ?_
       refine EQ.to ?_
       refine EQ.keep [0, 1, 2, 3, 4, 11, 12, 13, 126] [(0, sv (some f1) a2 a0), (1, ia a5), (2, ia a3), (3, ia a6), (4, .bool (a7)), (11, sv a8 a9 a4), (12, ia a1), (13, sv c0 c1 b7), (126, .bool (decide ((Int.tmod (a0.getD a1.toNat 0) 8) = 0)))] (by kernel_rfl) ?_
       exact fun a ha => ⟨decide ((Int.tmod (a0.getD a1.toNat 0) 8) = 0), ha, (hS.re [1, 1] [] rfl (sub_cons 0 rfl (sub_tail (sub_self)))), H⟩
      rw [if_neg m7] at H
      refine EL.keep [0, 1, 2, 3, 4, 11, 12, 13, 114, 115, 116, 117, 119] [(0, sv b3 a2 a0), (1, ia a5), (2, ia a3), (3, ia a6), (4, .bool (a7)), (11, sv a8 a9 a4), (12, ia a1), (13, sv c0 c1 b7), (114, sv b3 a2 a0), (115, ia (a0.length : Int)), (116, ia a1), (117, .bool (decide ((a0.length : Int) > a1))), (119, .bool (decide ((a0.length : Int) > a1)))] (by kernel_rfl) ?_
      refine EL.as' [(0, sv b3 a2 a0), (1, ia a5), (2, ia a3), (3, ia a6), (4, .bool (a7)), (11, sv a8 a9 a4), (12, ia a1), (13, sv c0 c1 b7), (114, sv b3 a2 a0), (115, ia (a0.length : Int)), (116, ia a1), (117, .bool (false)), (119, .bool (false))] (by simp only [sv, dec_f m7, Bool.not_true, Bool.not_false]) ?_
      refine EL.quick 7 [0, 1, 2, 3, 4, 11, 12, 13, 114, 115, 116, 117, 126] [(0, sv b3 a2 a0), (1, ia a5), (2, ia a3), (3, ia a6), (4, .bool (a7)), (11, sv a8 a9 a4), (12, ia a1), (13, sv c0 c1 b7), (114, sv b3 a2 a0), (115, ia (a0.length : Int)), (116, ia a1), (117, .bool (false)), (126, .bool (false))] (by kernel_rfl) ?_
      refine EL.done (by kernel_rfl) ?_
      refine EQ.to ?_
      refine EQ.keep [0, 1, 2, 3, 4, 11, 12, 13, 126] [(0, sv b3 a2 a0), (1, ia a5), (2, ia a3), (3, ia a6), (4, .bool (a7)), (11, sv a8 a9 a4), (12, ia a1), (13, sv c0 c1 b7), (126, .bool (false))] (by kernel_rfl) ?_
      exact fun a ha => ⟨false, ha, (hS.re [1, 1] [] rfl (sub_cons 0 rfl (sub_tail (sub_self)))), H⟩
     rw [if_neg m6] at H
     refine EL.keep [0, 1, 2, 3, 4, 11, 12, 13, 113] [(0, sv b3 a2 a0), (1, ia a5), (2, ia a3), (3, ia a6), (4, .bool (a7)), (11, sv a8 a9 a4), (12, ia a1), (13, sv c0 c1 b7), (113, .bool (decide ((Int.tmod a1 3) = 2)))] (by kernel_rfl) ?_
     refine EL.as' [(0, sv b3 a2 a0), (1, ia a5), (2, ia a3), (3, ia a6), (4, .bool (a7)), (11, sv a8 a9 a4), (12, ia a1), (13, sv c0 c1 b7), (113, .bool (false))] (by simp only [sv, dec_f m6, Bool.not_true, Bool.not_false]) ?_
     refine EL.quick 13 [0, 1, 2, 3, 4, 11, 12, 13, 126] [(0, sv b3 a2 a0), (1, ia a5), (2, ia a3), (3, ia a6), (4, .bool (a7)), (11, sv a8 a9 a4), (12, ia a1), (13, sv c0 c1 b7), (126, .bool (false))] (by kernel_rfl) ?_
     refine EL.done (by kernel_rfl) ?_
     refine EQ.to ?_
     refine EQ.keep [0, 1, 2, 3, 4, 11, 12, 13, 126] [(0, sv b3 a2 a0), (1, ia a5), (2, ia a3), (3, ia a6), (4, .bool (a7)), (11, sv a8 a9 a4), (12, ia a1), (13, sv c0 c1 b7), (126, .bool (false))] (by kernel_rfl) ?_
     exact fun a ha => ⟨false, ha, (hS.re [1, 1] [] rfl (sub_cons 0 rfl (sub_tail (sub_self)))), H⟩
    obtain ⟨i4, ha, hS, H⟩ := hI
    rw [u1] at H
    (try dsimp only at H)
    refine EW.at ?_ a ha
    clear ha a
    refine EW.cdP' (i4) (by kernel_rfl) (by kernel_rfl) (fun n9 => ?_) (fun n9 => ?_)
    ·rw [if_pos n9] at H
     refine EW.rg (by kernel_rfl) ?_
     refine EL.quick 3 [0, 1, 2, 3, 4, 11, 12, 127, 128, 129] [(0, sv b3 a2 a0), (1, ia a5), (2, ia a3), (3, ia a6), (4, .bool (a7)), (11, sv a8 a9 a4), (12, ia a1), (127, sv c0 c1 b7), (128, sv b3 a2 a0), (129, ia a1)] (by kernel_rfl) ?_
     obtain ⟨o0, H⟩ := ite_in H
     obtain ⟨o1, H⟩ := ite_in H
     obtain ⟨j7, rfl⟩ := St.rd_some hS (Rd.ro 0 rfl) o0 o1
     refine EL.of (EO.Y (YO.idx 28 1 j7 a0.length a2 .i64 a1 130 (by kernel_rfl) (by kernel_rfl) (by kernel_rfl) (by kernel_rfl) o0 o1) ?_)
     refine EL.of (EO.Y (YO.loadEl hS (Kd.int .u8) j7 a2 a0 (Rd.ro 0 rfl) 0 (encI .u8) encI_of a1 o0 o1 5 1 0 1 rfl (ig (a0.getD a1.toNat 0)) 131 (by kernel_rfl) (by kernel_rfl) (by kernel_rfl) (by kernel_rfl)) ?_)
     refine EL.quick 2 [0, 1, 2, 3, 4, 11, 12, 127, 133] [(0, sv (some j7) a2 a0), (1, ia a5), (2, ia a3), (3, ia a6), (4, .bool (a7)), (11, sv a8 a9 a4), (12, ia a1), (127, sv c0 c1 b7), (133, ia (IntKind.i64.wrap (IntKind.u8.wrap (Int.tdiv (a0.getD a1.toNat 0) 8))))] (by kernel_rfl) ?_
     obtain ⟨i1, g0, t2, H⟩ := b2_out H
     have hq := confidantseat_in.calls t2 hS
     refine EL.of (EO.callD 20 [ia 26, ia (IntKind.i64.wrap (IntKind.u8.wrap (Int.tdiv (a0.getD a1.toNat 0) 8)))] _ 134 (by kernel_rfl) (by kernel_rfl) (by kernel_rfl) hq ?_)
     rintro v w ⟨rfl, hS⟩
     obtain ⟨g9, p4, H⟩ := lt_out H
     refine EL.of (EO.lit hS kS27 27 25 1 #[(0, ag [ia i1, ib g0])] [ia i1, ib g0] g9 135 (by kernel_rfl) (by kernel_rfl) (by kernel_rfl) (fun _ => (by kernel_rfl)) (by rw [p4]; rfl) (by kernel_rfl) (fun w G hr => (by rw [p4]; exact ⟨[ia i1, ib g0], [], rfl, ⟨[ia i1], [ib g0], rfl, rfl, ⟨[ib g0], [], rfl, rfl, rfl⟩⟩, rfl⟩)) ?_)
     intro o9 w hS
     obtain ⟨p9, H⟩ := ite_in H
     obtain ⟨f5, u5, H⟩ := lt_out H
     refine EL.of (EO.append hS 25 25 27 16 2 kS27 c0 c1 b7 rfl (some ⟨o9, 0, none⟩) 1 g9 (Rd.own 0 27 rfl) f5 u5 (fun i8 j4 => Ass.own 27 kS27 (some ⟨o9, 0, none⟩) 1 g9 :: Ass.deep 25 27 kS27 a8 a9 a4 :: Ass.own 27 kS27 i8 j4 f5 :: os) 136 (by kernel_rfl) (by kernel_rfl) (by kernel_rfl) (by kernel_rfl) p9 (fun _ _ => rfl) ?_)
     intro i8 j4 w hS
     refine EL.quick 1 [0, 1, 2, 3, 4, 11, 12, 13] [(0, sv (some j7) a2 a0), (1, ia a5), (2, ia a3), (3, ia a6), (4, .bool (a7)), (11, sv a8 a9 a4), (12, ia a1), (13, sv i8 j4 f5)] (by kernel_rfl) ?_
     refine EL.done (by kernel_rfl) ?_
     refine EQ.to ?_
     refine EQ.keep [0, 1, 2, 3, 4, 11, 12, 13] [(0, sv (some j7) a2 a0), (1, ia a5), (2, ia a3), (3, ia a6), (4, .bool (a7)), (11, sv a8 a9 a4), (12, ia a1), (13, sv i8 j4 f5)] (by kernel_rfl) ?_
     exact fun a ha => ⟨f5, i8, j4, ha, (hS.re [2, 2] [2] rfl (sub_cons 0 rfl (sub_tail (sub_self)))), H⟩
    rw [if_neg n9] at H
    refine EW.rg (by kernel_rfl) ?_
    refine EL.quick 3 [0, 1, 2, 3, 4, 11, 12, 137, 139] [(0, sv b3 a2 a0), (1, ia a5), (2, ia a3), (3, ia a6), (4, .bool (a7)), (11, sv a8 a9 a4), (12, ia a1), (137, sv c0 c1 b7), (139, ia (Int.tmod a1 4))] (by kernel_rfl) ?_
    obtain ⟨i2, g1, t3, H⟩ := b2_out H
    have hq := confidantseat_in.calls t3 hS
    refine EL.of (EO.callD 20 [ia 12, ia (Int.tmod a1 4)] _ 140 (by kernel_rfl) (by kernel_rfl) (by kernel_rfl) hq ?_)
    rintro v w ⟨rfl, hS⟩
    obtain ⟨g2, f0, t4, H⟩ := b2_out H
    have hq := confidantseat_in.calls t4 hS
    refine EL.of (EO.callD 20 [ia 25, ia 0] _ 141 (by kernel_rfl) (by kernel_rfl) (by kernel_rfl) hq ?_)
    rintro v w ⟨rfl, hS⟩
    obtain ⟨i0, p5, H⟩ := lt_out H
    refine EL.of (EO.lit hS kS27 27 25 2 #[(0, ag [ia i2, ib g1]), (1, ag [ia g2, ib f0])] [ia i2, ib g1, ia g2, ib f0] i0 142 (by kernel_rfl) (by kernel_rfl) (by kernel_rfl) (fun _ => (by kernel_rfl)) (by rw [p5]; rfl) (by kernel_rfl) (fun w G hr => (by rw [p5]; exact ⟨[ia i2, ib g1], [ia g2, ib f0], rfl, ⟨[ia i2], [ib g1], rfl, rfl, ⟨[ib g1], [], rfl, rfl, rfl⟩⟩, ⟨[ia g2, ib f0], [], rfl, ⟨[ia g2], [ib f0], rfl, rfl, ⟨[ib f0], [], rfl, rfl, rfl⟩⟩, rfl⟩⟩)) ?_)
    intro p0 w hS
    obtain ⟨q0, H⟩ := ite_in H
    obtain ⟨f6, u6, H⟩ := lt_out H
    refine EL.of (EO.append hS 25 25 27 16 2 kS27 c0 c1 b7 rfl (some ⟨p0, 0, none⟩) 2 i0 (Rd.own 0 27 rfl) f6 u6 (fun i9 j5 => Ass.own 27 kS27 (some ⟨p0, 0, none⟩) 2 i0 :: Ass.deep 25 27 kS27 a8 a9 a4 :: Ass.own 27 kS27 i9 j5 f6 :: os) 143 (by kernel_rfl) (by kernel_rfl) (by kernel_rfl) (by kernel_rfl) q0 (fun _ _ => rfl) ?_)
    intro i9 j5 w hS
    refine EL.quick 1 [0, 1, 2, 3, 4, 11, 12, 13] [(0, sv b3 a2 a0), (1, ia a5), (2, ia a3), (3, ia a6), (4, .bool (a7)), (11, sv a8 a9 a4), (12, ia a1), (13, sv i9 j5 f6)] (by kernel_rfl) ?_
    refine EL.done (by kernel_rfl) ?_
    refine EQ.to ?_
    refine EQ.keep [0, 1, 2, 3, 4, 11, 12, 13] [(0, sv b3 a2 a0), (1, ia a5), (2, ia a3), (3, ia a6), (4, .bool (a7)), (11, sv a8 a9 a4), (12, ia a1), (13, sv i9 j5 f6)] (by kernel_rfl) ?_
    exact fun a ha => ⟨f6, i9, j5, ha, (hS.re [2, 2] [2] rfl (sub_cons 0 rfl (sub_tail (sub_self)))), H⟩
   obtain ⟨c5, e0, e1, ha, hS, H⟩ := hI
   rw [u0] at H
   (try dsimp only at H)
   refine EW.at ?_ a ha
   clear ha a
   refine EW.rg (by kernel_rfl) ?_
   refine EL.quick 2 [0, 1, 2, 3, 4, 12, 144, 145] [(0, sv b3 a2 a0), (1, ia a5), (2, ia a3), (3, ia a6), (4, .bool (a7)), (12, ia a1), (144, sv a8 a9 a4), (145, sv e0 e1 c5)] (by kernel_rfl) ?_
   refine EL.of (EO.lit (xs := ([(e0, c5.length, e1)] : List Hdr)) hS Kd.hdr 25 24 1 #[(0, sv e0 e1 c5)] [sv e0 e1 c5] 146 (by kernel_rfl) (by kernel_rfl) (by kernel_rfl) (fun _ => (by kernel_rfl)) rfl (by kernel_rfl) (fun w G hr => ⟨[sv e0 e1 c5], [], rfl, rfl, rfl⟩) ?_)
   intro p1 w hS
   have hS := St.as (os' := Ass.deep 25 27 kS27 (some ⟨p1, 0, none⟩) 1 ([c5] : List (List S27)) :: Ass.deep 25 27 kS27 a8 a9 a4 :: os) (St.fold (B := B) (os := _) (rs := _) (et := 25) (et' := 27) (K := kS27) (hs := [(e0, c5.length, e1)]) (xs := ([c5] : List (List S27))) ⟨rfl, trivial⟩ (St.re hS [2, 1] [] rfl sub_self)) rfl
   obtain ⟨q1, H⟩ := ite_in H
   obtain ⟨f7, u7, H⟩ := lt_out H
   refine EL.of (EO.appendDeep hS 24 24 24 1 0 kS27 a8 a9 a4 rfl (some ⟨p1, 0, none⟩) 1 ([c5] : List (List S27)) rfl f7 u7 (fun j0 j6 => Ass.deep 25 27 kS27 j0 j6 f7 :: os) 147 (by kernel_rfl) (by kernel_rfl) (by kernel_rfl) (by kernel_rfl) q1 (fun _ _ => rfl) ?_)
   intro j0 j6 w hS
   refine EL.quick 1 [0, 1, 2, 3, 4, 11, 12] [(0, sv b3 a2 a0), (1, ia a5), (2, ia a3), (3, ia a6), (4, .bool (a7)), (11, sv j0 j6 f7), (12, ia a1)] (by kernel_rfl) ?_
   refine EL.done (by kernel_rfl) ?_
   refine EQ.pop ?_
   refine EQ.to ?_
   refine EQ.keep [0, 1, 2, 3, 4, 11, 12] [(0, sv b3 a2 a0), (1, ia a5), (2, ia a3), (3, ia a6), (4, .bool (a7)), (11, sv j0 j6 f7), (12, ia a1)] (by kernel_rfl) ?_
   exact fun a ha => ⟨f7, j0, j6, ha, (hS.re [0] [] rfl (sub_cons 0 rfl (sub_tail (sub_self)))), H⟩
  obtain ⟨e4, g3, g5, ha, hS, H⟩ := hI
  rw [t5] at H
  (try dsimp only at H)
  refine EW.at ?_ a ha
  clear ha a
  refine EW.rg (by kernel_rfl) ?_
  refine EL.quick 3 [0, 1, 2, 3, 4, 11, 12] [(0, sv b3 a2 a0), (1, ia a5), (2, ia a3), (3, ia a6), (4, .bool (a7)), (11, sv g3 g5 e4), (12, ia (IntKind.i64.wrap (a1 + 1)))] (by kernel_rfl) ?_
  refine EL.done (by kernel_rfl) ?_
  refine EQ.to ?_
  refine EQ.keep [0, 1, 2, 3, 4, 11, 12] [(0, sv b3 a2 a0), (1, ia a5), (2, ia a3), (3, ia a6), (4, .bool (a7)), (11, sv g3 g5 e4), (12, ia (IntKind.i64.wrap (a1 + 1)))] (by kernel_rfl) ?_
  exact fun a ha => ⟨n, Nat.lt_succ_self n, e4, IntKind.i64.wrap (a1 + 1), g3, g5, ha, (hS.re [0] [] rfl (sub_cons 0 rfl (sub_tail (sub_self)))), H⟩
 rw [if_neg n3] at H
 refine EW.exit (id := 0) (by kernel_rfl) ?_
 refine EQ.exitCode ?_
 refine EQ.exitTo ?_
 refine EQ.exitHere ?_
 refine EQ.code ?_
 refine EW.sq (by kernel_rfl) ?_
 refine EW.rg (by kernel_rfl) ?_
 refine EL.quick 2 [10] [(10, sv a8 a9 a4)] (by kernel_rfl) ?_
 refine EL.done (by kernel_rfl) ?_
 refine EQ.code ?_
 refine EW.ret (by kernel_rfl) ?_
 obtain rfl := Option.some.inj H
 exact EQ.leave (sv a8 a9 a4) (by kernel_rfl) ⟨_, rfl, a8, a9, rfl, (hS.re [0] [] rfl (sub_self))⟩

end Go.Proofs.YtiilloijkbabbaaDoor.G
