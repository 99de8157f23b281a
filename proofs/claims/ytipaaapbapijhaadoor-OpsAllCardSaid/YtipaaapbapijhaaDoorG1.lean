import Derived.Test.YtipaaapbapijhaaDoorProg
import Derived.Test.YtipaaapbapijhaaDoorFwShort
import Derived.Test.YtipaaapbapijhaaDoorFwOpen
import Derived.Test.YtipaaapbapijhaaDoorDoor
import Derived.Test.YtipaaapbapijhaaDoorG0
namespace Go.Proofs.YtipaaapbapijhaaDoor.G
open Go Go.Fw Go.RowKit Go.Proofs
set_option linter.unusedVariables false
set_option linter.unusedSimpArgs false

/-! ### confidant/confidantlaw5.OpsAll: function 4 -/
def confidantlaw5_OpsAll.f (K : Nat) (a3 : Int) (a4 : Int) : Option Bool := b1 (confidantlaw5_known.f K) fun (b6 : Bool) => (if b6 = true then (b1 (ops_Known.f K (IntKind.i64.wrap ((Int.tmod (IntKind.i64.wrap a3) 26) + 1))) fun (a1 : Bool) => (if a1 = true then (b1 (ops_Known.f K 27) fun (a2 : Bool) => (if a2 = true then (some false) else (b1 (ops_Known.f K (IntKind.i64.wrap (0 - (IntKind.i64.wrap ((Int.tmod (IntKind.i64.wrap a3) 26) + 1))))) fun (a5 : Bool) => (if a5 = true then (some false) else (b1 (ops_Name.f K (IntKind.i64.wrap ((Int.tmod (IntKind.i64.wrap a3) 26) + 1))) fun (a0 : ByteArray) => (b1 (ops_Name.f K (IntKind.i64.wrap ((Int.tmod (IntKind.i64.wrap a4) 26) + 1))) fun (a6 : ByteArray) => (if ((a0.toList == a6.toList) == (decide ((IntKind.i64.wrap ((Int.tmod (IntKind.i64.wrap a3) 26) + 1)) = (IntKind.i64.wrap ((Int.tmod (IntKind.i64.wrap a4) 26) + 1))))) = true then (b1 (ops_Pops.f K (IntKind.i64.wrap ((Int.tmod (IntKind.i64.wrap a3) 26) + 1))) fun (a7 : Int) => (if a7 ≥ 0 then (b1 (ops_Pops.f K (IntKind.i64.wrap ((Int.tmod (IntKind.i64.wrap a3) 26) + 1))) fun (a8 : Int) => (if a8 ≤ 2 then (b1 (ops_Pushes.f K (IntKind.i64.wrap ((Int.tmod (IntKind.i64.wrap a3) 26) + 1))) fun (a9 : Int) => (if a9 ≥ 0 then (b1 (ops_Pushes.f K (IntKind.i64.wrap ((Int.tmod (IntKind.i64.wrap a3) 26) + 1))) fun (b0 : Int) => (if b0 ≤ 2 then (b1 (ops_Ends.f K (IntKind.i64.wrap ((Int.tmod (IntKind.i64.wrap a3) 26) + 1))) fun (b2 : Bool) => (if b2 = true then (b1 (ops_Pushes.f K (IntKind.i64.wrap ((Int.tmod (IntKind.i64.wrap a3) 26) + 1))) fun (b3 : Int) => (if b3 = 0 then (b1 (ops_Arg.f K (IntKind.i64.wrap ((Int.tmod (IntKind.i64.wrap a3) 26) + 1))) fun (b4 : Int) => (if b4 ≥ 0 then (b1 (ops_Arg.f K (IntKind.i64.wrap ((Int.tmod (IntKind.i64.wrap a3) 26) + 1))) fun (c9 : Int) => (some (decide (c9 ≤ 6)))) else (some false))) else (some false))) else (b1 (ops_Arg.f K (IntKind.i64.wrap ((Int.tmod (IntKind.i64.wrap a3) 26) + 1))) fun (b5 : Int) => (if b5 ≥ 0 then (b1 (ops_Arg.f K (IntKind.i64.wrap ((Int.tmod (IntKind.i64.wrap a3) 26) + 1))) fun (d0 : Int) => (some (decide (d0 ≤ 6)))) else (some false))))) else (some false))) else (some false))) else (some false))) else (some false))) else (some false)))))))) else (some false))) else (some false))
set_option maxRecDepth 100000 in
theorem confidantlaw5_OpsAll.calls {K : Nat} {a3 : Int} {a4 : Int} {d2 : Bool} {B w : World} {os : List Ass} {rs : List Ro} (H : confidantlaw5_OpsAll.f K a3 a4 = some d2) (hS : St B w (os) (rs)) (gB : Glob B) :
  Calls Tryd.prog 4 [ig a3, ig a4].toArray w (fun en w' => ∃ v, en = .returned v ∧ v = .bool (d2) ∧ St B w' (os) (rs)) := by
 unfold confidantlaw5_OpsAll.f at H
 refine calls_of_EW (args := [ig a3, ig a4]) (c := Cd4) 80 Tryd.func4 (by kernel_rfl) (by kernel_rfl) (by kernel_rfl) ?_
 refine EW.sq (by kernel_rfl) ?_
 refine EW.rg (by kernel_rfl) ?_
 refine EL.quick 1 [0, 1] [(0, ig a3), (1, ig a4)] (by kernel_rfl) ?_
 refine EL.done (by kernel_rfl) ?_
 refine EQ.code ?_
 refine EW.sq (by kernel_rfl) ?_
 refine EW.sq (by kernel_rfl) ?_
 refine EW.rg (by kernel_rfl) ?_
 obtain ⟨b6, d3, H⟩ := b1_out H
 have hq := confidantlaw5_known.calls d3 hS gB
 refine EL.of (EO.callD 6 [] _ 7 (by kernel_rfl) (by kernel_rfl) (by kernel_rfl) hq ?_)
 rintro v w ⟨rfl, hS⟩
 refine EL.quick 1 [0, 1, 8] [(0, ig a3), (1, ig a4), (8, .bool (!(b6)))] (by kernel_rfl) ?_
 refine EL.done (by kernel_rfl) ?_
 refine EQ.code ?_
 refine EW.cdQ (b := !(b6)) (b6 = true) (false) (by kernel_rfl) (by kernel_rfl) ⟨fun h => (by rw [h] <;> rfl), fun h => (by rw [Bool.eq_false_iff.2 h] <;> rfl)⟩ (fun d1 => ?_) (fun d1 => ?_)
 ·rw [if_pos d1] at H
  refine EW.skip (by kernel_rfl) ?_
  refine EQ.code ?_
  refine EW.sq (by kernel_rfl) ?_
  refine EW.rg (by kernel_rfl) ?_
  refine EL.quick 10 [5, 6] [(5, ia (IntKind.i64.wrap ((Int.tmod (IntKind.i64.wrap a3) 26) + 1))), (6, ia (IntKind.i64.wrap ((Int.tmod (IntKind.i64.wrap a4) 26) + 1)))] (by kernel_rfl) ?_
  refine EL.done (by kernel_rfl) ?_
  refine EQ.code ?_
  refine EW.sq (by kernel_rfl) ?_
  refine EW.rg (by kernel_rfl) ?_
  refine EL.quick 1 [5, 6, 17] [(5, ia (IntKind.i64.wrap ((Int.tmod (IntKind.i64.wrap a3) 26) + 1))), (6, ia (IntKind.i64.wrap ((Int.tmod (IntKind.i64.wrap a4) 26) + 1))), (17, ia (IntKind.i64.wrap ((Int.tmod (IntKind.i64.wrap a3) 26) + 1)))] (by kernel_rfl) ?_
  obtain ⟨a1, d4, H⟩ := b1_out H
  have hq := ops_Known.calls d4 hS
  refine EL.of (EO.callD 7 [ia (IntKind.i64.wrap ((Int.tmod (IntKind.i64.wrap a3) 26) + 1))] _ 18 (by kernel_rfl) (by kernel_rfl) (by kernel_rfl) hq ?_)
  rintro v w ⟨rfl, hS⟩
  refine EL.quick 1 [5, 6, 19] [(5, ia (IntKind.i64.wrap ((Int.tmod (IntKind.i64.wrap a3) 26) + 1))), (6, ia (IntKind.i64.wrap ((Int.tmod (IntKind.i64.wrap a4) 26) + 1))), (19, .bool (a1))] (by kernel_rfl) ?_
  by_cases b7 : a1 = true
  ·rw [if_pos b7] at H
   refine EL.keep [5, 6, 19] [(5, ia (IntKind.i64.wrap ((Int.tmod (IntKind.i64.wrap a3) 26) + 1))), (6, ia (IntKind.i64.wrap ((Int.tmod (IntKind.i64.wrap a4) 26) + 1))), (19, .bool (a1))] (by kernel_rfl) ?_
   refine EL.as' [(5, ia (IntKind.i64.wrap ((Int.tmod (IntKind.i64.wrap a3) 26) + 1))), (6, ia (IntKind.i64.wrap ((Int.tmod (IntKind.i64.wrap a4) 26) + 1))), (19, .bool (true))] (by simp only [b7, Bool.not_true, Bool.not_false]) ?_
   obtain ⟨a2, d5, H⟩ := b1_out H
   have hq := ops_Known.calls d5 hS
   refine EL.of (EO.callD 7 [ia 27] _ 20 (by kernel_rfl) (by kernel_rfl) (by kernel_rfl) hq ?_)
   rintro v w ⟨rfl, hS⟩
   refine EL.quick 3 [5, 6, 23] [(5, ia (IntKind.i64.wrap ((Int.tmod (IntKind.i64.wrap a3) 26) + 1))), (6, ia (IntKind.i64.wrap ((Int.tmod (IntKind.i64.wrap a4) 26) + 1))), (23, .bool (!(a2)))] (by kernel_rfl) ?_
   by_cases b8 : a2 = true
   ·rw [if_pos b8] at H
    refine EL.keep [5, 6, 23] [(5, ia (IntKind.i64.wrap ((Int.tmod (IntKind.i64.wrap a3) 26) + 1))), (6, ia (IntKind.i64.wrap ((Int.tmod (IntKind.i64.wrap a4) 26) + 1))), (23, .bool (!(a2)))] (by kernel_rfl) ?_
    refine EL.as' [(5, ia (IntKind.i64.wrap ((Int.tmod (IntKind.i64.wrap a3) 26) + 1))), (6, ia (IntKind.i64.wrap ((Int.tmod (IntKind.i64.wrap a4) 26) + 1))), (23, .bool (false))] (by simp only [b8, Bool.not_true, Bool.not_false]) ?_
    refine EL.quick 57 [4] [(4, .bool (false))] (by kernel_rfl) ?_
    refine EL.done (by kernel_rfl) ?_
    refine EQ.code ?_
    refine EW.ret (by kernel_rfl) ?_
    obtain rfl := Option.some.inj H
    exact EQ.leave (.bool (false)) (by kernel_rfl) ⟨_, rfl, rfl, (hS.re [] [] rfl (sub_self))⟩
   rw [if_neg b8] at H
   refine EL.keep [5, 6, 23] [(5, ia (IntKind.i64.wrap ((Int.tmod (IntKind.i64.wrap a3) 26) + 1))), (6, ia (IntKind.i64.wrap ((Int.tmod (IntKind.i64.wrap a4) 26) + 1))), (23, .bool (!(a2)))] (by kernel_rfl) ?_
   refine EL.as' [(5, ia (IntKind.i64.wrap ((Int.tmod (IntKind.i64.wrap a3) 26) + 1))), (6, ia (IntKind.i64.wrap ((Int.tmod (IntKind.i64.wrap a4) 26) + 1))), (23, .bool (true))] (by simp only [(Bool.eq_false_iff.2 b8), Bool.not_true, Bool.not_false]) ?_
   refine EL.quick 2 [5, 6, 23, 25] [(5, ia (IntKind.i64.wrap ((Int.tmod (IntKind.i64.wrap a3) 26) + 1))), (6, ia (IntKind.i64.wrap ((Int.tmod (IntKind.i64.wrap a4) 26) + 1))), (23, .bool (true)), (25, ia (IntKind.i64.wrap (0 - (IntKind.i64.wrap ((Int.tmod (IntKind.i64.wrap a3) 26) + 1)))))] (by kernel_rfl) ?_
   obtain ⟨a5, d6, H⟩ := b1_out H
   have hq := ops_Known.calls d6 hS
   refine EL.of (EO.callD 7 [ia (IntKind.i64.wrap (0 - (IntKind.i64.wrap ((Int.tmod (IntKind.i64.wrap a3) 26) + 1))))] _ 26 (by kernel_rfl) (by kernel_rfl) (by kernel_rfl) hq ?_)
   rintro v w ⟨rfl, hS⟩
   refine EL.quick 3 [5, 6, 29] [(5, ia (IntKind.i64.wrap ((Int.tmod (IntKind.i64.wrap a3) 26) + 1))), (6, ia (IntKind.i64.wrap ((Int.tmod (IntKind.i64.wrap a4) 26) + 1))), (29, .bool (!(a5)))] (by kernel_rfl) ?_
   by_cases b9 : a5 = true
   ·rw [if_pos b9] at H
    refine EL.keep [5, 6, 29] [(5, ia (IntKind.i64.wrap ((Int.tmod (IntKind.i64.wrap a3) 26) + 1))), (6, ia (IntKind.i64.wrap ((Int.tmod (IntKind.i64.wrap a4) 26) + 1))), (29, .bool (!(a5)))] (by kernel_rfl) ?_
    refine EL.as' [(5, ia (IntKind.i64.wrap ((Int.tmod (IntKind.i64.wrap a3) 26) + 1))), (6, ia (IntKind.i64.wrap ((Int.tmod (IntKind.i64.wrap a4) 26) + 1))), (29, .bool (false))] (by simp only [b9, Bool.not_true, Bool.not_false]) ?_
    refine EL.quick 51 [4] [(4, .bool (false))] (by kernel_rfl) ?_
    refine EL.done (by kernel_rfl) ?_
    refine EQ.code ?_
    refine EW.ret (by kernel_rfl) ?_
    obtain rfl := Option.some.inj H
    exact EQ.leave (.bool (false)) (by kernel_rfl) ⟨_, rfl, rfl, (hS.re [] [] rfl (sub_self))⟩
   rw [if_neg b9] at H
   refine EL.keep [5, 6, 29] [(5, ia (IntKind.i64.wrap ((Int.tmod (IntKind.i64.wrap a3) 26) + 1))), (6, ia (IntKind.i64.wrap ((Int.tmod (IntKind.i64.wrap a4) 26) + 1))), (29, .bool (!(a5)))] (by kernel_rfl) ?_
   refine EL.as' [(5, ia (IntKind.i64.wrap ((Int.tmod (IntKind.i64.wrap a3) 26) + 1))), (6, ia (IntKind.i64.wrap ((Int.tmod (IntKind.i64.wrap a4) 26) + 1))), (29, .bool (true))] (by simp only [(Bool.eq_false_iff.2 b9), Bool.not_true, Bool.not_false]) ?_
   refine EL.quick 1 [5, 6, 29, 30] [(5, ia (IntKind.i64.wrap ((Int.tmod (IntKind.i64.wrap a3) 26) + 1))), (6, ia (IntKind.i64.wrap ((Int.tmod (IntKind.i64.wrap a4) 26) + 1))), (29, .bool (true)), (30, ia (IntKind.i64.wrap ((Int.tmod (IntKind.i64.wrap a3) 26) + 1)))] (by kernel_rfl) ?_
   obtain ⟨a0, d7, H⟩ := b1_out H
   have hq := ops_Name.calls d7 hS gB
   refine EL.of (EO.callD 17 [ia (IntKind.i64.wrap ((Int.tmod (IntKind.i64.wrap a3) 26) + 1))] _ 31 (by kernel_rfl) (by kernel_rfl) (by kernel_rfl) hq ?_)
   rintro v w ⟨rfl, hS⟩
   refine EL.quick 1 [5, 6, 29, 31, 32] [(5, ia (IntKind.i64.wrap ((Int.tmod (IntKind.i64.wrap a3) 26) + 1))), (6, ia (IntKind.i64.wrap ((Int.tmod (IntKind.i64.wrap a4) 26) + 1))), (29, .bool (true)), (31, .string a0), (32, ia (IntKind.i64.wrap ((Int.tmod (IntKind.i64.wrap a4) 26) + 1)))] (by kernel_rfl) ?_
   obtain ⟨a6, d8, H⟩ := b1_out H
   have hq := ops_Name.calls d8 hS gB
   refine EL.of (EO.callD 17 [ia (IntKind.i64.wrap ((Int.tmod (IntKind.i64.wrap a4) 26) + 1))] _ 33 (by kernel_rfl) (by kernel_rfl) (by kernel_rfl) hq ?_)
   rintro v w ⟨rfl, hS⟩
   refine EL.quick 7 [5, 40] [(5, ia (IntKind.i64.wrap ((Int.tmod (IntKind.i64.wrap a3) 26) + 1))), (40, .bool (((a0.toList == a6.toList) == (decide ((IntKind.i64.wrap ((Int.tmod (IntKind.i64.wrap a3) 26) + 1)) = (IntKind.i64.wrap ((Int.tmod (IntKind.i64.wrap a4) 26) + 1)))))))] (by kernel_rfl) ?_
   by_cases c0 : ((a0.toList == a6.toList) == (decide ((IntKind.i64.wrap ((Int.tmod (IntKind.i64.wrap a3) 26) + 1)) = (IntKind.i64.wrap ((Int.tmod (IntKind.i64.wrap a4) 26) + 1))))) = true
   ·rw [if_pos c0] at H
    refine EL.keep [5, 40] [(5, ia (IntKind.i64.wrap ((Int.tmod (IntKind.i64.wrap a3) 26) + 1))), (40, .bool (((a0.toList == a6.toList) == (decide ((IntKind.i64.wrap ((Int.tmod (IntKind.i64.wrap a3) 26) + 1)) = (IntKind.i64.wrap ((Int.tmod (IntKind.i64.wrap a4) 26) + 1)))))))] (by kernel_rfl) ?_
    refine EL.as' [(5, ia (IntKind.i64.wrap ((Int.tmod (IntKind.i64.wrap a3) 26) + 1))), (40, .bool (true))] (by simp only [c0, Bool.not_true, Bool.not_false]) ?_
    refine EL.quick 1 [5, 40, 41] [(5, ia (IntKind.i64.wrap ((Int.tmod (IntKind.i64.wrap a3) 26) + 1))), (40, .bool (true)), (41, ia (IntKind.i64.wrap ((Int.tmod (IntKind.i64.wrap a3) 26) + 1)))] (by kernel_rfl) ?_
    obtain ⟨a7, d9, H⟩ := b1_out H
    have hq := ops_Pops.calls d9 hS
    refine EL.of (EO.callD 11 [ia (IntKind.i64.wrap ((Int.tmod (IntKind.i64.wrap a3) 26) + 1))] _ 42 (by kernel_rfl) (by kernel_rfl) (by kernel_rfl) hq ?_)
    rintro v w ⟨rfl, hS⟩
    refine EL.quick 3 [5, 45] [(5, ia (IntKind.i64.wrap ((Int.tmod (IntKind.i64.wrap a3) 26) + 1))), (45, .bool (decide (a7 ≥ 0)))] (by kernel_rfl) ?_
    by_cases c1 : a7 ≥ 0
    ·rw [if_pos c1] at H
     refine EL.keep [5, 45] [(5, ia (IntKind.i64.wrap ((Int.tmod (IntKind.i64.wrap a3) 26) + 1))), (45, .bool (decide (a7 ≥ 0)))] (by kernel_rfl) ?_
     refine EL.as' [(5, ia (IntKind.i64.wrap ((Int.tmod (IntKind.i64.wrap a3) 26) + 1))), (45, .bool (true))] (by simp only [dec_t c1, Bool.not_true, Bool.not_false]) ?_
     refine EL.quick 1 [5, 45, 46] [(5, ia (IntKind.i64.wrap ((Int.tmod (IntKind.i64.wrap a3) 26) + 1))), (45, .bool (true)), (46, ia (IntKind.i64.wrap ((Int.tmod (IntKind.i64.wrap a3) 26) + 1)))] (by kernel_rfl) ?_
     obtain ⟨a8, e0, H⟩ := b1_out H
     have hq := ops_Pops.calls e0 hS
     refine EL.of (EO.callD 11 [ia (IntKind.i64.wrap ((Int.tmod (IntKind.i64.wrap a3) 26) + 1))] _ 47 (by kernel_rfl) (by kernel_rfl) (by kernel_rfl) hq ?_)
     rintro v w ⟨rfl, hS⟩
     refine EL.quick 3 [5, 50] [(5, ia (IntKind.i64.wrap ((Int.tmod (IntKind.i64.wrap a3) 26) + 1))), (50, .bool (decide (a8 ≤ 2)))] (by kernel_rfl) ?_
     by_cases c2 : a8 ≤ 2
     ·rw [if_pos c2] at H
      refine EL.keep [5, 50] [(5, ia (IntKind.i64.wrap ((Int.tmod (IntKind.i64.wrap a3) 26) + 1))), (50, .bool (decide (a8 ≤ 2)))] (by kernel_rfl) ?_
      refine EL.as' [(5, ia (IntKind.i64.wrap ((Int.tmod (IntKind.i64.wrap a3) 26) + 1))), (50, .bool (true))] (by simp only [dec_t c2, Bool.not_true, Bool.not_false]) ?_
      refine EL.quick 1 [5, 50, 51] [(5, ia (IntKind.i64.wrap ((Int.tmod (IntKind.i64.wrap a3) 26) + 1))), (50, .bool (true)), (51, ia (IntKind.i64.wrap ((Int.tmod (IntKind.i64.wrap a3) 26) + 1)))] (by kernel_rfl) ?_
      obtain ⟨a9, e1, H⟩ := b1_out H
      have hq := ops_Pushes.calls e1 hS
      refine EL.of (EO.callD 13 [ia (IntKind.i64.wrap ((Int.tmod (IntKind.i64.wrap a3) 26) + 1))] _ 52 (by kernel_rfl) (by kernel_rfl) (by kernel_rfl) hq ?_)
      rintro v w ⟨rfl, hS⟩
      refine EL.quick 3 [5, 55] [(5, ia (IntKind.i64.wrap ((Int.tmod (IntKind.i64.wrap a3) 26) + 1))), (55, .bool (decide (a9 ≥ 0)))] (by kernel_rfl) ?_
      by_cases c3 : a9 ≥ 0
      ·rw [if_pos c3] at H
       refine EL.keep [5, 55] [(5, ia (IntKind.i64.wrap ((Int.tmod (IntKind.i64.wrap a3) 26) + 1))), (55, .bool (decide (a9 ≥ 0)))] (by kernel_rfl) ?_
       refine EL.as' [(5, ia (IntKind.i64.wrap ((Int.tmod (IntKind.i64.wrap a3) 26) + 1))), (55, .bool (true))] (by simp only [dec_t c3, Bool.not_true, Bool.not_false]) ?_
       refine EL.quick 1 [5, 55, 56] [(5, ia (IntKind.i64.wrap ((Int.tmod (IntKind.i64.wrap a3) 26) + 1))), (55, .bool (true)), (56, ia (IntKind.i64.wrap ((Int.tmod (IntKind.i64.wrap a3) 26) + 1)))] (by kernel_rfl) ?_
       obtain ⟨b0, e2, H⟩ := b1_out H
       have hq := ops_Pushes.calls e2 hS
       refine EL.of (EO.callD 13 [ia (IntKind.i64.wrap ((Int.tmod (IntKind.i64.wrap a3) 26) + 1))] _ 57 (by kernel_rfl) (by kernel_rfl) (by kernel_rfl) hq ?_)
       rintro v w ⟨rfl, hS⟩
       refine EL.quick 3 [5, 60] [(5, ia (IntKind.i64.wrap ((Int.tmod (IntKind.i64.wrap a3) 26) + 1))), (60, .bool (decide (b0 ≤ 2)))] (by kernel_rfl) ?_
       by_cases c4 : b0 ≤ 2
       ·rw [if_pos c4] at H
        refine EL.keep [5, 60] [(5, ia (IntKind.i64.wrap ((Int.tmod (IntKind.i64.wrap a3) 26) + 1))), (60, .bool (decide (b0 ≤ 2)))] (by kernel_rfl) ?_
        refine EL.as' [(5, ia (IntKind.i64.wrap ((Int.tmod (IntKind.i64.wrap a3) 26) + 1))), (60, .bool (true))] (by simp only [dec_t c4, Bool.not_true, Bool.not_false]) ?_
        refine EL.quick 1 [5, 60, 61] [(5, ia (IntKind.i64.wrap ((Int.tmod (IntKind.i64.wrap a3) 26) + 1))), (60, .bool (true)), (61, ia (IntKind.i64.wrap ((Int.tmod (IntKind.i64.wrap a3) 26) + 1)))] (by kernel_rfl) ?_
        obtain ⟨b2, e3, H⟩ := b1_out H
        have hq := ops_Ends.calls e3 hS
        refine EL.of (EO.callD 15 [ia (IntKind.i64.wrap ((Int.tmod (IntKind.i64.wrap a3) 26) + 1))] _ 62 (by kernel_rfl) (by kernel_rfl) (by kernel_rfl) hq ?_)
        rintro v w ⟨rfl, hS⟩
        refine EL.quick 2 [5, 60, 64] [(5, ia (IntKind.i64.wrap ((Int.tmod (IntKind.i64.wrap a3) 26) + 1))), (60, .bool (true)), (64, .bool (!(b2)))] (by kernel_rfl) ?_
        by_cases c5 : b2 = true
        ·rw [if_pos c5] at H
         refine EL.keep [5, 60, 64] [(5, ia (IntKind.i64.wrap ((Int.tmod (IntKind.i64.wrap a3) 26) + 1))), (60, .bool (true)), (64, .bool (!(b2)))] (by kernel_rfl) ?_
         refine EL.as' [(5, ia (IntKind.i64.wrap ((Int.tmod (IntKind.i64.wrap a3) 26) + 1))), (60, .bool (true)), (64, .bool (false))] (by simp only [c5, Bool.not_true, Bool.not_false]) ?_
         refine EL.quick 1 [5, 60, 64, 65] [(5, ia (IntKind.i64.wrap ((Int.tmod (IntKind.i64.wrap a3) 26) + 1))), (60, .bool (true)), (64, .bool (false)), (65, ia (IntKind.i64.wrap ((Int.tmod (IntKind.i64.wrap a3) 26) + 1)))] (by kernel_rfl) ?_
         obtain ⟨b3, e4, H⟩ := b1_out H
         have hq := ops_Pushes.calls e4 hS
         refine EL.of (EO.callD 13 [ia (IntKind.i64.wrap ((Int.tmod (IntKind.i64.wrap a3) 26) + 1))] _ 66 (by kernel_rfl) (by kernel_rfl) (by kernel_rfl) hq ?_)
         rintro v w ⟨rfl, hS⟩
         refine EL.quick 4 [5, 70] [(5, ia (IntKind.i64.wrap ((Int.tmod (IntKind.i64.wrap a3) 26) + 1))), (70, .bool (decide (b3 = 0)))] (by kernel_rfl) ?_
         by_cases c6 : b3 = 0
         ·rw [if_pos c6] at H
          refine EL.keep [5, 70] [(5, ia (IntKind.i64.wrap ((Int.tmod (IntKind.i64.wrap a3) 26) + 1))), (70, .bool (decide (b3 = 0)))] (by kernel_rfl) ?_
          refine EL.as' [(5, ia (IntKind.i64.wrap ((Int.tmod (IntKind.i64.wrap a3) 26) + 1))), (70, .bool (true))] (by simp only [dec_t c6, Bool.not_true, Bool.not_false]) ?_
          refine EL.quick 1 [5, 70, 71] [(5, ia (IntKind.i64.wrap ((Int.tmod (IntKind.i64.wrap a3) 26) + 1))), (70, .bool (true)), (71, ia (IntKind.i64.wrap ((Int.tmod (IntKind.i64.wrap a3) 26) + 1)))] (by kernel_rfl) ?_
          obtain ⟨b4, e5, H⟩ := b1_out H
          have hq := ops_Arg.calls e5 hS
          refine EL.of (EO.callD 9 [ia (IntKind.i64.wrap ((Int.tmod (IntKind.i64.wrap a3) 26) + 1))] _ 72 (by kernel_rfl) (by kernel_rfl) (by kernel_rfl) hq ?_)
          rintro v w ⟨rfl, hS⟩
          refine EL.quick 3 [5, 75] [(5, ia (IntKind.i64.wrap ((Int.tmod (IntKind.i64.wrap a3) 26) + 1))), (75, .bool (decide (b4 ≥ 0)))] (by kernel_rfl) ?_
          by_cases c7 : b4 ≥ 0
          ·rw [if_pos c7] at H
           refine EL.keep [5, 75] [(5, ia (IntKind.i64.wrap ((Int.tmod (IntKind.i64.wrap a3) 26) + 1))), (75, .bool (decide (b4 ≥ 0)))] (by kernel_rfl) ?_
           refine EL.as' [(5, ia (IntKind.i64.wrap ((Int.tmod (IntKind.i64.wrap a3) 26) + 1))), (75, .bool (true))] (by simp only [dec_t c7, Bool.not_true, Bool.not_false]) ?_
           refine EL.quick 1 [75, 76] [(75, .bool (true)), (76, ia (IntKind.i64.wrap ((Int.tmod (IntKind.i64.wrap a3) 26) + 1)))] (by kernel_rfl) ?_
           obtain ⟨c9, e6, H⟩ := b1_out H
           have hq := ops_Arg.calls e6 hS
           refine EL.of (EO.callD 9 [ia (IntKind.i64.wrap ((Int.tmod (IntKind.i64.wrap a3) 26) + 1))] _ 77 (by kernel_rfl) (by kernel_rfl) (by kernel_rfl) hq ?_)
           rintro v w ⟨rfl, hS⟩
           refine EL.quick 3 [4] [(4, .bool (decide (c9 ≤ 6)))] (by kernel_rfl) ?_
           refine EL.done (by kernel_rfl) ?_
           refine EQ.code ?_
           refine EW.ret (by kernel_rfl) ?_
           obtain rfl := Option.some.inj H
           exact EQ.leave (.bool (decide (c9 ≤ 6))) (by kernel_rfl) ⟨_, rfl, rfl, (hS.re [] [] rfl (sub_self))⟩
          rw [if_neg c7] at H
          refine EL.keep [5, 75] [(5, ia (IntKind.i64.wrap ((Int.tmod (IntKind.i64.wrap a3) 26) + 1))), (75, .bool (decide (b4 ≥ 0)))] (by kernel_rfl) ?_
          refine EL.as' [(5, ia (IntKind.i64.wrap ((Int.tmod (IntKind.i64.wrap a3) 26) + 1))), (75, .bool (false))] (by simp only [dec_f c7, Bool.not_true, Bool.not_false]) ?_
          refine EL.quick 5 [4] [(4, .bool (false))] (by kernel_rfl) ?_
          refine EL.done (by kernel_rfl) ?_
          refine EQ.code ?_
          refine EW.ret (by kernel_rfl) ?_
          obtain rfl := Option.some.inj H
          exact EQ.leave (.bool (false)) (by kernel_rfl) ⟨_, rfl, rfl, (hS.re [] [] rfl (sub_self))⟩
         rw [if_neg c6] at H
         refine EL.keep [5, 70] [(5, ia (IntKind.i64.wrap ((Int.tmod (IntKind.i64.wrap a3) 26) + 1))), (70, .bool (decide (b3 = 0)))] (by kernel_rfl) ?_
         refine EL.as' [(5, ia (IntKind.i64.wrap ((Int.tmod (IntKind.i64.wrap a3) 26) + 1))), (70, .bool (false))] (by simp only [dec_f c6, Bool.not_true, Bool.not_false]) ?_
         refine EL.quick 10 [4] [(4, .bool (false))] (by kernel_rfl) ?_
         refine EL.done (by kernel_rfl) ?_
         refine EQ.code ?_
         refine EW.ret (by kernel_rfl) ?_
         obtain rfl := Option.some.inj H
         exact EQ.leave (.bool (false)) (by kernel_rfl) ⟨_, rfl, rfl, (hS.re [] [] rfl (sub_self))⟩
        rw [if_neg c5] at H
        refine EL.keep [5, 60, 64] [(5, ia (IntKind.i64.wrap ((Int.tmod (IntKind.i64.wrap a3) 26) + 1))), (60, .bool (true)), (64, .bool (!(b2)))] (by kernel_rfl) ?_
        refine EL.as' [(5, ia (IntKind.i64.wrap ((Int.tmod (IntKind.i64.wrap a3) 26) + 1))), (60, .bool (true)), (64, .bool (true))] (by simp only [(Bool.eq_false_iff.2 c5), Bool.not_true, Bool.not_false]) ?_
        refine EL.quick 7 [5, 70, 71] [(5, ia (IntKind.i64.wrap ((Int.tmod (IntKind.i64.wrap a3) 26) + 1))), (70, .bool (true)), (71, ia (IntKind.i64.wrap ((Int.tmod (IntKind.i64.wrap a3) 26) + 1)))] (by kernel_rfl) ?_
        obtain ⟨b5, e7, H⟩ := b1_out H
        have hq := ops_Arg.calls e7 hS
        refine EL.of (EO.callD 9 [ia (IntKind.i64.wrap ((Int.tmod (IntKind.i64.wrap a3) 26) + 1))] _ 72 (by kernel_rfl) (by kernel_rfl) (by kernel_rfl) hq ?_)
        rintro v w ⟨rfl, hS⟩
        refine EL.quick 3 [5, 75] [(5, ia (IntKind.i64.wrap ((Int.tmod (IntKind.i64.wrap a3) 26) + 1))), (75, .bool (decide (b5 ≥ 0)))] (by kernel_rfl) ?_
        by_cases c8 : b5 ≥ 0
        ·rw [if_pos c8] at H
         refine EL.keep [5, 75] [(5, ia (IntKind.i64.wrap ((Int.tmod (IntKind.i64.wrap a3) 26) + 1))), (75, .bool (decide (b5 ≥ 0)))] (by kernel_rfl) ?_
         refine EL.as' [(5, ia (IntKind.i64.wrap ((Int.tmod (IntKind.i64.wrap a3) 26) + 1))), (75, .bool (true))] (by simp only [dec_t c8, Bool.not_true, Bool.not_false]) ?_
         refine EL.quick 1 [75, 76] [(75, .bool (true)), (76, ia (IntKind.i64.wrap ((Int.tmod (IntKind.i64.wrap a3) 26) + 1)))] (by kernel_rfl) ?_
         obtain ⟨d0, e8, H⟩ := b1_out H
         have hq := ops_Arg.calls e8 hS
         refine EL.of (EO.callD 9 [ia (IntKind.i64.wrap ((Int.tmod (IntKind.i64.wrap a3) 26) + 1))] _ 77 (by kernel_rfl) (by kernel_rfl) (by kernel_rfl) hq ?_)
         rintro v w ⟨rfl, hS⟩
         refine EL.quick 3 [4] [(4, .bool (decide (d0 ≤ 6)))] (by kernel_rfl) ?_
         refine EL.done (by kernel_rfl) ?_
         refine EQ.code ?_
         refine EW.ret (by kernel_rfl) ?_
         obtain rfl := Option.some.inj H
         exact EQ.leave (.bool (decide (d0 ≤ 6))) (by kernel_rfl) ⟨_, rfl, rfl, (hS.re [] [] rfl (sub_self))⟩
        rw [if_neg c8] at H
        refine EL.keep [5, 75] [(5, ia (IntKind.i64.wrap ((Int.tmod (IntKind.i64.wrap a3) 26) + 1))), (75, .bool (decide (b5 ≥ 0)))] (by kernel_rfl) ?_
        refine EL.as' [(5, ia (IntKind.i64.wrap ((Int.tmod (IntKind.i64.wrap a3) 26) + 1))), (75, .bool (false))] (by simp only [dec_f c8, Bool.not_true, Bool.not_false]) ?_
        refine EL.quick 5 [4] [(4, .bool (false))] (by kernel_rfl) ?_
        refine EL.done (by kernel_rfl) ?_
        refine EQ.code ?_
        refine EW.ret (by kernel_rfl) ?_
        obtain rfl := Option.some.inj H
        exact EQ.leave (.bool (false)) (by kernel_rfl) ⟨_, rfl, rfl, (hS.re [] [] rfl (sub_self))⟩
       rw [if_neg c4] at H
       refine EL.keep [5, 60] [(5, ia (IntKind.i64.wrap ((Int.tmod (IntKind.i64.wrap a3) 26) + 1))), (60, .bool (decide (b0 ≤ 2)))] (by kernel_rfl) ?_
       refine EL.as' [(5, ia (IntKind.i64.wrap ((Int.tmod (IntKind.i64.wrap a3) 26) + 1))), (60, .bool (false))] (by simp only [dec_f c4, Bool.not_true, Bool.not_false]) ?_
       refine EL.quick 20 [4] [(4, .bool (false))] (by kernel_rfl) ?_
       refine EL.done (by kernel_rfl) ?_
       refine EQ.code ?_
       refine EW.ret (by kernel_rfl) ?_
       obtain rfl := Option.some.inj H
       exact EQ.leave (.bool (false)) (by kernel_rfl) ⟨_, rfl, rfl, (hS.re [] [] rfl (sub_self))⟩
      rw [if_neg c3] at H
      refine EL.keep [5, 55] [(5, ia (IntKind.i64.wrap ((Int.tmod (IntKind.i64.wrap a3) 26) + 1))), (55, .bool (decide (a9 ≥ 0)))] (by kernel_rfl) ?_
      refine EL.as' [(5, ia (IntKind.i64.wrap ((Int.tmod (IntKind.i64.wrap a3) 26) + 1))), (55, .bool (false))] (by simp only [dec_f c3, Bool.not_true, Bool.not_false]) ?_
      refine EL.quick 25 [4] [(4, .bool (false))] (by kernel_rfl) ?_
      refine EL.done (by kernel_rfl) ?_
      refine EQ.code ?_
      refine EW.ret (by kernel_rfl) ?_
      obtain rfl := Option.some.inj H
      exact EQ.leave (.bool (false)) (by kernel_rfl) ⟨_, rfl, rfl, (hS.re [] [] rfl (sub_self))⟩
     rw [if_neg c2] at H
     refine EL.keep [5, 50] [(5, ia (IntKind.i64.wrap ((Int.tmod (IntKind.i64.wrap a3) 26) + 1))), (50, .bool (decide (a8 ≤ 2)))] (by kernel_rfl) ?_
     refine EL.as' [(5, ia (IntKind.i64.wrap ((Int.tmod (IntKind.i64.wrap a3) 26) + 1))), (50, .bool (false))] (by simp only [dec_f c2, Bool.not_true, Bool.not_false]) ?_
     refine EL.quick 30 [4] [(4, .bool (false))] (by kernel_rfl) ?_
     refine EL.done (by kernel_rfl) ?_
     refine EQ.code ?_
     refine EW.ret (by kernel_rfl) ?_
     obtain rfl := Option.some.inj H
     exact EQ.leave (.bool (false)) (by kernel_rfl) ⟨_, rfl, rfl, (hS.re [] [] rfl (sub_self))⟩
    rw [if_neg c1] at H
    refine EL.keep [5, 45] [(5, ia (IntKind.i64.wrap ((Int.tmod (IntKind.i64.wrap a3) 26) + 1))), (45, .bool (decide (a7 ≥ 0)))] (by kernel_rfl) ?_
    refine EL.as' [(5, ia (IntKind.i64.wrap ((Int.tmod (IntKind.i64.wrap a3) 26) + 1))), (45, .bool (false))] (by simp only [dec_f c1, Bool.not_true, Bool.not_false]) ?_
    refine EL.quick 35 [4] [(4, .bool (false))] (by kernel_rfl) ?_
    refine EL.done (by kernel_rfl) ?_
    refine EQ.code ?_
    refine EW.ret (by kernel_rfl) ?_
    obtain rfl := Option.some.inj H
    exact EQ.leave (.bool (false)) (by kernel_rfl) ⟨_, rfl, rfl, (hS.re [] [] rfl (sub_self))⟩
   rw [if_neg c0] at H
   refine EL.keep [5, 40] [(5, ia (IntKind.i64.wrap ((Int.tmod (IntKind.i64.wrap a3) 26) + 1))), (40, .bool (((a0.toList == a6.toList) == (decide ((IntKind.i64.wrap ((Int.tmod (IntKind.i64.wrap a3) 26) + 1)) = (IntKind.i64.wrap ((Int.tmod (IntKind.i64.wrap a4) 26) + 1)))))))] (by kernel_rfl) ?_
   refine EL.as' [(5, ia (IntKind.i64.wrap ((Int.tmod (IntKind.i64.wrap a3) 26) + 1))), (40, .bool (false))] (by simp only [(Bool.eq_false_iff.2 c0), Bool.not_true, Bool.not_false]) ?_
   refine EL.quick 40 [4] [(4, .bool (false))] (by kernel_rfl) ?_
   refine EL.done (by kernel_rfl) ?_
   refine EQ.code ?_
   refine EW.ret (by kernel_rfl) ?_
   obtain rfl := Option.some.inj H
   exact EQ.leave (.bool (false)) (by kernel_rfl) ⟨_, rfl, rfl, (hS.re [] [] rfl (sub_self))⟩
  rw [if_neg b7] at H
  refine EL.keep [5, 6, 19] [(5, ia (IntKind.i64.wrap ((Int.tmod (IntKind.i64.wrap a3) 26) + 1))), (6, ia (IntKind.i64.wrap ((Int.tmod (IntKind.i64.wrap a4) 26) + 1))), (19, .bool (a1))] (by kernel_rfl) ?_
  refine EL.as' [(5, ia (IntKind.i64.wrap ((Int.tmod (IntKind.i64.wrap a3) 26) + 1))), (6, ia (IntKind.i64.wrap ((Int.tmod (IntKind.i64.wrap a4) 26) + 1))), (19, .bool (false))] (by simp only [(Bool.eq_false_iff.2 b7), Bool.not_true, Bool.not_false]) ?_
  refine EL.quick 61 [4] [(4, .bool (false))] (by kernel_rfl) ?_
  refine EL.done (by kernel_rfl) ?_
  refine EQ.code ?_
  refine EW.ret (by kernel_rfl) ?_
  obtain rfl := Option.some.inj H
  exact EQ.leave (.bool (false)) (by kernel_rfl) ⟨_, rfl, rfl, (hS.re [] [] rfl (sub_self))⟩
 rw [if_neg d1] at H
 refine EW.sq (by kernel_rfl) ?_
 refine EW.rg (by kernel_rfl) ?_
 refine EL.quick 1 [4] [(4, .bool (false))] (by kernel_rfl) ?_
 refine EL.done (by kernel_rfl) ?_
 refine EQ.code ?_
 refine EW.ret (by kernel_rfl) ?_
 refine EQ.ret ?_
 obtain rfl := Option.some.inj H
 exact EQ.leave (.bool (false)) (by kernel_rfl) ⟨_, rfl, rfl, (hS.re [] [] rfl (sub_self))⟩

def confidantlaw5_OpsAll.Pure : Prop := ∀ (a3 : Int) (a4 : Int), (Lit.int .u8 a3).wf = true → (Lit.int .u8 a4).wf = true → ∃ K, confidantlaw5_OpsAll.f K a3 a4 = some true

end Go.Proofs.YtipaaapbapijhaaDoor.G
