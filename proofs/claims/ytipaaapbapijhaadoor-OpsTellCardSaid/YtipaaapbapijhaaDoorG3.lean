import Derived.Test.YtipaaapbapijhaaDoorProg
import Derived.Test.YtipaaapbapijhaaDoorFwShort
import Derived.Test.YtipaaapbapijhaaDoorFwOpen
import Derived.Test.YtipaaapbapijhaaDoorDoor
import Derived.Test.YtipaaapbapijhaaDoorG0
import Derived.Test.YtipaaapbapijhaaDoorG2
namespace Go.Proofs.YtipaaapbapijhaaDoor.G
open Go Go.Fw Go.RowKit Go.Proofs
set_option linter.unusedVariables false
set_option linter.unusedSimpArgs false

/-! ### confidant/confidantlaw5.OpsTell: function 3 -/
def confidantlaw5_OpsTell.l0 (K : Nat) (a0 : List Int) (c2 : (List Int) → Option Bool) : Nat → Int → Option Bool
 | 0, _ => none
 | n + 1, a1 => if a1 < (a0.length : Int) then (if 0 ≤ a1 then (lt (fun (c9 : Bool) => (if c9 = true then (some false) else (b1 (ops_Name.f K (a0.getD a1.toNat 0)) fun (e7 : ByteArray) => (b2 (ops_Find.f K e7) fun (b4 : Int) (b3 : Bool) => (lt (fun (d0 : Bool) => (if d0 = true then (some false) else (confidantlaw5_OpsTell.l0 K a0 c2 n (IntKind.i64.wrap (a1 + 1))))) fun d2 => (b1 (confidantref5_Known.f K (a0.getD a1.toNat 0)) fun (c7 : Bool) => (if (b3 == c7) = true then (if b3 = true then (d2 (!(decide (b4 = (a0.getD a1.toNat 0))))) else (d2 false)) else (d2 true)))))))) fun c0 => (b1 (ops_Known.f K (a0.getD a1.toNat 0)) fun (c3 : Bool) => (b1 (confidantref5_Known.f K (a0.getD a1.toNat 0)) fun (c6 : Bool) => (if (c3 == c6) = true then (b1 (ops_Arg.f K (a0.getD a1.toNat 0)) fun (a5 : Int) => (b1 (confidantref5_Arg.f K (a0.getD a1.toNat 0)) fun (a6 : Int) => (if a5 = a6 then (b1 (ops_Pops.f K (a0.getD a1.toNat 0)) fun (a7 : Int) => (b1 (confidantref5_Pops.f K (a0.getD a1.toNat 0)) fun (a8 : Int) => (if a7 = a8 then (b1 (ops_Pushes.f K (a0.getD a1.toNat 0)) fun (a9 : Int) => (b1 (confidantref5_Pushes.f K (a0.getD a1.toNat 0)) fun (b0 : Int) => (if a9 = b0 then (b1 (ops_Ends.f K (a0.getD a1.toNat 0)) fun (b5 : Bool) => (b1 (confidantref5_Ends.f K (a0.getD a1.toNat 0)) fun (b6 : Bool) => (if (b5 == b6) = true then (b1 (ops_Name.f K (a0.getD a1.toNat 0)) fun (c1 : ByteArray) => (b1 (confidantref5_Name.f K (a0.getD a1.toNat 0)) fun (c4 : ByteArray) => (c0 (!((c1.toList == c4.toList)))))) else (c0 true)))) else (c0 true)))) else (c0 true)))) else (c0 true)))) else (c0 true))))) else none) else (c2 a0)
def confidantlaw5_OpsTell.f (K : Nat) (a3 : Int) (a4 : ByteArray) : Option Bool := b1 (confidantlaw5_known.f K) fun (d3 : Bool) => (if d3 = true then (if (a4.size : Int) > 20 then (some true) else (lt (fun (e2 : List Int) => (b2 (ops_Find.f K a4) fun (b9 : Int) (b7 : Bool) => (b2 (confidantref5_Find.f K a4) fun (c5 : Int) (b8 : Bool) => (if b9 = c5 then (some (b7 == b8)) else (some false))))) fun c2 => (lt ([a3, bA .i64 a3 31] : List Int) fun a0 => (confidantlaw5_OpsTell.l0 K a0 c2 K 0)))) else (some false))
set_option maxRecDepth 100000 in
theorem confidantlaw5_OpsTell.calls {K : Nat} {a3 : Int} {a4 : ByteArray} {c8 : Bool} {B w : World} {os : List Ass} {rs : List Ro} (H : confidantlaw5_OpsTell.f K a3 a4 = some c8) (hS : St B w (os) (rs)) (gB : Glob B) :
  Calls Tryd.prog 3 [ia a3, .string a4].toArray w (fun en w' => ∃ v, en = .returned v ∧ v = .bool (c8) ∧ St B w' (os) (rs)) := by
 unfold confidantlaw5_OpsTell.f at H
 refine calls_of_EW (args := [ia a3, .string a4]) (c := Cd3) 104 Tryd.func3 (by kernel_rfl) (by kernel_rfl) (by kernel_rfl) ?_
 refine EW.sq (by kernel_rfl) ?_
 refine EW.rg (by kernel_rfl) ?_
 refine EL.quick 1 [0, 1] [(0, ia a3), (1, .string a4)] (by kernel_rfl) ?_
 refine EL.done (by kernel_rfl) ?_
 refine EQ.code ?_
 refine EW.sq (by kernel_rfl) ?_
 refine EW.sq (by kernel_rfl) ?_
 refine EW.rg (by kernel_rfl) ?_
 obtain ⟨d3, f2, H⟩ := b1_out H
 have hq := confidantlaw5_known.calls f2 hS gB
 refine EL.of (EO.callD 6 [] _ 13 (by kernel_rfl) (by kernel_rfl) (by kernel_rfl) hq ?_)
 rintro v w ⟨rfl, hS⟩
 refine EL.quick 1 [0, 1, 14] [(0, ia a3), (1, .string a4), (14, .bool (!(d3)))] (by kernel_rfl) ?_
 refine EL.done (by kernel_rfl) ?_
 refine EQ.code ?_
 refine EW.cdQ (b := !(d3)) (d3 = true) (false) (by kernel_rfl) (by kernel_rfl) ⟨fun h => (by rw [h] <;> rfl), fun h => (by rw [Bool.eq_false_iff.2 h] <;> rfl)⟩ (fun e3 => ?_) (fun e3 => ?_)
 ·rw [if_pos e3] at H
  refine EW.skip (by kernel_rfl) ?_
  refine EQ.code ?_
  refine EW.sq (by kernel_rfl) ?_
  refine EW.sq (by kernel_rfl) ?_
  refine EW.rg (by kernel_rfl) ?_
  refine EL.quick 3 [0, 1, 17] [(0, ia a3), (1, .string a4), (17, .bool (decide ((a4.size : Int) > 20)))] (by kernel_rfl) ?_
  refine EL.done (by kernel_rfl) ?_
  refine EQ.code ?_
  refine EW.cdP ((a4.size : Int) > 20) (by kernel_rfl) (by kernel_rfl) (fun e4 => ?_) (fun e4 => ?_)
  ·rw [if_pos e4] at H
   refine EW.sq (by kernel_rfl) ?_
   refine EW.rg (by kernel_rfl) ?_
   refine EL.quick 1 [4] [(4, .bool (true))] (by kernel_rfl) ?_
   refine EL.done (by kernel_rfl) ?_
   refine EQ.code ?_
   refine EW.ret (by kernel_rfl) ?_
   refine EQ.ret ?_
   obtain rfl := Option.some.inj H
   exact EQ.leave (.bool (true)) (by kernel_rfl) ⟨_, rfl, rfl, (hS.re [] [] rfl (sub_self))⟩
  rw [if_neg e4] at H
  refine EW.skip (by kernel_rfl) ?_
  refine EQ.code ?_
  obtain ⟨c2, i0, H⟩ := lt_out H
  refine EW.ct (fun a w => ∃ e2 : List Int, ∃ e8 : Option Addr, ∃ e9 : Nat, Sat 104 [(1, .string a4)] a ∧ St B w (Ass.own 3 (Kd.int .i64) e8 e9 e2 :: os) (rs) ∧ c2 e2 = some c8) (by kernel_rfl) ?_ (fun a w hI => ?_)
  ·refine EW.sq (by kernel_rfl) ?_
   refine EW.rg (by kernel_rfl) ?_
   refine EL.quick 3 [1, 18, 20] [(1, .string a4), (18, ia a3), (20, ia (bA .i64 a3 31))] (by kernel_rfl) ?_
   obtain ⟨a0, f1, H⟩ := lt_out H
   refine EL.of (EO.lit hS (Kd.int .i64) 3 23 2 #[(0, ia a3), (1, ia (bA .i64 a3 31))] [ia a3, ia (bA .i64 a3 31)] a0 21 (by kernel_rfl) (by kernel_rfl) (by kernel_rfl) (fun _ => (by kernel_rfl)) (by rw [f1]; rfl) (by kernel_rfl) (fun w G hr => (by rw [f1]; exact ⟨[ia a3], [ia (bA .i64 a3 31)], rfl, rfl, ⟨[ia (bA .i64 a3 31)], [], rfl, rfl, rfl⟩⟩)) ?_)
   intro a2 w hS
   refine EL.quick 2 [1, 21, 22, 23] [(1, .string a4), (21, sv (some ⟨a2, 0, none⟩) 2 a0), (22, ia (a0.length : Int)), (23, ia 0)] (by kernel_rfl) ?_
   refine EL.done (by kernel_rfl) ?_
   refine EQ.code ?_
   refine EW.bl 0 (by kernel_rfl) ?_
   refine EW.lp (fun n a w => ∃ a1 : Int, Sat 104 [(1, .string a4), (21, sv (some ⟨a2, 0, none⟩) 2 a0), (22, ia (a0.length : Int)), (23, ia a1)] a ∧ St B w (Ass.own 3 (Kd.int .i64) (some ⟨a2, 0, none⟩) 2 a0 :: os) (rs) ∧ confidantlaw5_OpsTell.l0 K a0 c2 n a1 = some c8) K (by kernel_rfl) ?_ (fun n a w hI => ?_)
   ·refine EQ.keep [1, 21, 22, 23] [(1, .string a4), (21, sv (some ⟨a2, 0, none⟩) 2 a0), (22, ia (a0.length : Int)), (23, ia 0)] (by kernel_rfl) ?_
    exact fun a ha => ⟨0, ha, (hS.re [0] [] rfl (sub_self)), H⟩
   obtain ⟨a1, ha, hS, H⟩ := hI
   obtain _ | n := n
   ·simp [confidantlaw5_OpsTell.l0] at H
   rw [confidantlaw5_OpsTell.l0.eq_2] at H
   refine EW.at ?_ a ha
   clear ha a
   refine EW.sq (by kernel_rfl) ?_
   refine EW.rg (by kernel_rfl) ?_
   refine EL.quick 1 [1, 21, 22, 23, 24] [(1, .string a4), (21, sv (some ⟨a2, 0, none⟩) 2 a0), (22, ia (a0.length : Int)), (23, ia a1), (24, .bool (decide (a1 < (a0.length : Int))))] (by kernel_rfl) ?_
   refine EL.done (by kernel_rfl) ?_
   refine EQ.code ?_
   refine EW.sq (by kernel_rfl) ?_
   refine EW.cdP (a1 < (a0.length : Int)) (by kernel_rfl) (by kernel_rfl) (fun d1 => ?_) (fun d1 => ?_)
   ·rw [if_pos d1] at H
    refine EW.skip (by kernel_rfl) ?_
    refine EQ.code ?_
    refine EW.sq (by kernel_rfl) ?_
    refine EW.bl 1 (by kernel_rfl) ?_
    refine EW.sq (by kernel_rfl) ?_
    refine EW.rg (by kernel_rfl) ?_
    obtain ⟨f0, H⟩ := ite_in H
    refine EL.of (EO.Y (YO.idx 23 1 ⟨a2, 0, none⟩ a0.length 2 .i64 a1 25 (by kernel_rfl) (by kernel_rfl) (by kernel_rfl) (by kernel_rfl) f0 d1) ?_)
    refine EL.of (EO.Y (YO.loadEl hS (Kd.int .i64) ⟨a2, 0, none⟩ 2 a0 (Rd.own 0 3 rfl) 0 (encI .i64) encI_of a1 f0 d1 3 1 0 1 rfl (ia (a0.getD a1.toNat 0)) 26 (by kernel_rfl) (by kernel_rfl) (by kernel_rfl) (by kernel_rfl)) ?_)
    refine EL.quick 1 [1, 6, 21, 22, 23] [(1, .string a4), (6, ia (a0.getD a1.toNat 0)), (21, sv (some ⟨a2, 0, none⟩) 2 a0), (22, ia (a0.length : Int)), (23, ia a1)] (by kernel_rfl) ?_
    refine EL.done (by kernel_rfl) ?_
    refine EQ.code ?_
    refine EW.sq (by kernel_rfl) ?_
    obtain ⟨c0, i1, H⟩ := lt_out H
    refine EW.ct (fun a w => ∃ c9 : Bool, Sat 104 [(1, .string a4), (6, ia (a0.getD a1.toNat 0)), (21, sv (some ⟨a2, 0, none⟩) 2 a0), (22, ia (a0.length : Int)), (23, ia a1), (66, .bool (c9))] a ∧ St B w (Ass.own 3 (Kd.int .i64) (some ⟨a2, 0, none⟩) 2 a0 :: os) (rs) ∧ c0 c9 = some c8) (by kernel_rfl) ?_ (fun a w hI => ?_)
    ·refine EW.rg (by kernel_rfl) ?_
     refine EL.quick 1 [1, 6, 21, 22, 23, 27] [(1, .string a4), (6, ia (a0.getD a1.toNat 0)), (21, sv (some ⟨a2, 0, none⟩) 2 a0), (22, ia (a0.length : Int)), (23, ia a1), (27, ia (a0.getD a1.toNat 0))] (by kernel_rfl) ?_
     obtain ⟨c3, f3, H⟩ := b1_out H
     have hq := ops_Known.calls f3 hS
     refine EL.of (EO.callD 7 [ia (a0.getD a1.toNat 0)] _ 28 (by kernel_rfl) (by kernel_rfl) (by kernel_rfl) hq ?_)
     rintro v w ⟨rfl, hS⟩
     refine EL.quick 1 [1, 6, 21, 22, 23, 28, 29] [(1, .string a4), (6, ia (a0.getD a1.toNat 0)), (21, sv (some ⟨a2, 0, none⟩) 2 a0), (22, ia (a0.length : Int)), (23, ia a1), (28, .bool (c3)), (29, ia (a0.getD a1.toNat 0))] (by kernel_rfl) ?_
     obtain ⟨c6, f4, H⟩ := b1_out H
     have hq := confidantref5_Known.calls f4 hS
     refine EL.of (EO.callD 8 [ia (a0.getD a1.toNat 0)] _ 30 (by kernel_rfl) (by kernel_rfl) (by kernel_rfl) hq ?_)
     rintro v w ⟨rfl, hS⟩
     refine EL.quick 2 [1, 6, 21, 22, 23, 32] [(1, .string a4), (6, ia (a0.getD a1.toNat 0)), (21, sv (some ⟨a2, 0, none⟩) 2 a0), (22, ia (a0.length : Int)), (23, ia a1), (32, .bool (!((c3 == c6))))] (by kernel_rfl) ?_
     by_cases d4 : (c3 == c6) = true
     ·rw [if_pos d4] at H
      refine EL.keep [1, 6, 21, 22, 23, 32] [(1, .string a4), (6, ia (a0.getD a1.toNat 0)), (21, sv (some ⟨a2, 0, none⟩) 2 a0), (22, ia (a0.length : Int)), (23, ia a1), (32, .bool (!((c3 == c6))))] (by kernel_rfl) ?_
      refine EL.as' [(1, .string a4), (6, ia (a0.getD a1.toNat 0)), (21, sv (some ⟨a2, 0, none⟩) 2 a0), (22, ia (a0.length : Int)), (23, ia a1), (32, .bool (false))] (by simp only [sv, d4, Bool.not_true, Bool.not_false]) ?_
      refine EL.quick 1 [1, 6, 21, 22, 23, 32, 33] [(1, .string a4), (6, ia (a0.getD a1.toNat 0)), (21, sv (some ⟨a2, 0, none⟩) 2 a0), (22, ia (a0.length : Int)), (23, ia a1), (32, .bool (false)), (33, ia (a0.getD a1.toNat 0))] (by kernel_rfl) ?_
      obtain ⟨a5, f5, H⟩ := b1_out H
      have hq := ops_Arg.calls f5 hS
      refine EL.of (EO.callD 9 [ia (a0.getD a1.toNat 0)] _ 34 (by kernel_rfl) (by kernel_rfl) (by kernel_rfl) hq ?_)
      rintro v w ⟨rfl, hS⟩
      refine EL.quick 1 [1, 6, 21, 22, 23, 32, 33, 34, 35] [(1, .string a4), (6, ia (a0.getD a1.toNat 0)), (21, sv (some ⟨a2, 0, none⟩) 2 a0), (22, ia (a0.length : Int)), (23, ia a1), (32, .bool (false)), (33, ia (a0.getD a1.toNat 0)), (34, ia a5), (35, ia (a0.getD a1.toNat 0))] (by kernel_rfl) ?_
      obtain ⟨a6, f6, H⟩ := b1_out H
      have hq := confidantref5_Arg.calls f6 hS
      refine EL.of (EO.callD 10 [ia (a0.getD a1.toNat 0)] _ 36 (by kernel_rfl) (by kernel_rfl) (by kernel_rfl) hq ?_)
      rintro v w ⟨rfl, hS⟩
      refine EL.quick 3 [1, 6, 21, 22, 23, 33, 34, 35, 36, 37, 39] [(1, .string a4), (6, ia (a0.getD a1.toNat 0)), (21, sv (some ⟨a2, 0, none⟩) 2 a0), (22, ia (a0.length : Int)), (23, ia a1), (33, ia (a0.getD a1.toNat 0)), (34, ia a5), (35, ia (a0.getD a1.toNat 0)), (36, ia a6), (37, .bool (!(decide (a5 = a6)))), (39, .bool (!(decide (a5 = a6))))] (by kernel_rfl) ?_
      by_cases d5 : a5 = a6
      ·rw [if_pos d5] at H
       refine EL.keep [1, 6, 21, 22, 23, 33, 34, 35, 36, 37, 39] [(1, .string a4), (6, ia (a0.getD a1.toNat 0)), (21, sv (some ⟨a2, 0, none⟩) 2 a0), (22, ia (a0.length : Int)), (23, ia a1), (33, ia (a0.getD a1.toNat 0)), (34, ia a5), (35, ia (a0.getD a1.toNat 0)), (36, ia a6), (37, .bool (!(decide (a5 = a6)))), (39, .bool (!(decide (a5 = a6))))] (by kernel_rfl) ?_
       refine EL.as' [(1, .string a4), (6, ia (a0.getD a1.toNat 0)), (21, sv (some ⟨a2, 0, none⟩) 2 a0), (22, ia (a0.length : Int)), (23, ia a1), (33, ia (a0.getD a1.toNat 0)), (34, ia a5), (35, ia (a0.getD a1.toNat 0)), (36, ia a6), (37, .bool (false)), (39, .bool (false))] (by simp only [sv, dec_t d5, Bool.not_true, Bool.not_false]) ?_
       refine EL.quick 1 [1, 6, 21, 22, 23, 33, 34, 35, 36, 37, 39, 40] [(1, .string a4), (6, ia (a0.getD a1.toNat 0)), (21, sv (some ⟨a2, 0, none⟩) 2 a0), (22, ia (a0.length : Int)), (23, ia a1), (33, ia (a0.getD a1.toNat 0)), (34, ia a5), (35, ia (a0.getD a1.toNat 0)), (36, ia a6), (37, .bool (false)), (39, .bool (false)), (40, ia (a0.getD a1.toNat 0))] (by kernel_rfl) ?_
       obtain ⟨a7, f7, H⟩ := b1_out H
       have hq := ops_Pops.calls f7 hS
       refine EL.of (EO.callD 11 [ia (a0.getD a1.toNat 0)] _ 41 (by kernel_rfl) (by kernel_rfl) (by kernel_rfl) hq ?_)
       rintro v w ⟨rfl, hS⟩
       refine EL.quick 1 [1, 6, 21, 22, 23, 33, 34, 35, 36, 37, 39, 40, 41, 42] [(1, .string a4), (6, ia (a0.getD a1.toNat 0)), (21, sv (some ⟨a2, 0, none⟩) 2 a0), (22, ia (a0.length : Int)), (23, ia a1), (33, ia (a0.getD a1.toNat 0)), (34, ia a5), (35, ia (a0.getD a1.toNat 0)), (36, ia a6), (37, .bool (false)), (39, .bool (false)), (40, ia (a0.getD a1.toNat 0)), (41, ia a7), (42, ia (a0.getD a1.toNat 0))] (by kernel_rfl) ?_
       obtain ⟨a8, f8, H⟩ := b1_out H
       have hq := confidantref5_Pops.calls f8 hS
       refine EL.of (EO.callD 12 [ia (a0.getD a1.toNat 0)] _ 43 (by kernel_rfl) (by kernel_rfl) (by kernel_rfl) hq ?_)
       rintro v w ⟨rfl, hS⟩
       refine EL.quick 3 [1, 6, 21, 22, 23, 33, 34, 35, 36, 37, 40, 41, 42, 43, 44, 46] [(1, .string a4), (6, ia (a0.getD a1.toNat 0)), (21, sv (some ⟨a2, 0, none⟩) 2 a0), (22, ia (a0.length : Int)), (23, ia a1), (33, ia (a0.getD a1.toNat 0)), (34, ia a5), (35, ia (a0.getD a1.toNat 0)), (36, ia a6), (37, .bool (false)), (40, ia (a0.getD a1.toNat 0)), (41, ia a7), (42, ia (a0.getD a1.toNat 0)), (43, ia a8), (44, .bool (!(decide (a7 = a8)))), (46, .bool (!(decide (a7 = a8))))] (by kernel_rfl) ?_
       by_cases d6 : a7 = a8
       ·rw [if_pos d6] at H
        refine EL.keep [1, 6, 21, 22, 23, 33, 34, 35, 36, 37, 40, 41, 42, 43, 44, 46] [(1, .string a4), (6, ia (a0.getD a1.toNat 0)), (21, sv (some ⟨a2, 0, none⟩) 2 a0), (22, ia (a0.length : Int)), (23, ia a1), (33, ia (a0.getD a1.toNat 0)), (34, ia a5), (35, ia (a0.getD a1.toNat 0)), (36, ia a6), (37, .bool (false)), (40, ia (a0.getD a1.toNat 0)), (41, ia a7), (42, ia (a0.getD a1.toNat 0)), (43, ia a8), (44, .bool (!(decide (a7 = a8)))), (46, .bool (!(decide (a7 = a8))))] (by kernel_rfl) ?_
        refine EL.as' [(1, .string a4), (6, ia (a0.getD a1.toNat 0)), (21, sv (some ⟨a2, 0, none⟩) 2 a0), (22, ia (a0.length : Int)), (23, ia a1), (33, ia (a0.getD a1.toNat 0)), (34, ia a5), (35, ia (a0.getD a1.toNat 0)), (36, ia a6), (37, .bool (false)), (40, ia (a0.getD a1.toNat 0)), (41, ia a7), (42, ia (a0.getD a1.toNat 0)), (43, ia a8), (44, .bool (false)), (46, .bool (false))] (by simp only [sv, dec_t d6, Bool.not_true, Bool.not_false]) ?_
        refine EL.quick 1 [1, 6, 21, 22, 23, 33, 34, 35, 36, 37, 40, 41, 42, 43, 44, 46, 47] [(1, .string a4), (6, ia (a0.getD a1.toNat 0)), (21, sv (some ⟨a2, 0, none⟩) 2 a0), (22, ia (a0.length : Int)), (23, ia a1), (33, ia (a0.getD a1.toNat 0)), (34, ia a5), (35, ia (a0.getD a1.toNat 0)), (36, ia a6), (37, .bool (false)), (40, ia (a0.getD a1.toNat 0)), (41, ia a7), (42, ia (a0.getD a1.toNat 0)), (43, ia a8), (44, .bool (false)), (46, .bool (false)), (47, ia (a0.getD a1.toNat 0))] (by kernel_rfl) ?_
        obtain ⟨a9, f9, H⟩ := b1_out H
        have hq := ops_Pushes.calls f9 hS
        refine EL.of (EO.callD 13 [ia (a0.getD a1.toNat 0)] _ 48 (by kernel_rfl) (by kernel_rfl) (by kernel_rfl) hq ?_)
        rintro v w ⟨rfl, hS⟩
        refine EL.quick 1 [1, 6, 21, 22, 23, 33, 34, 35, 36, 37, 40, 41, 42, 43, 44, 46, 47, 48, 49] [(1, .string a4), (6, ia (a0.getD a1.toNat 0)), (21, sv (some ⟨a2, 0, none⟩) 2 a0), (22, ia (a0.length : Int)), (23, ia a1), (33, ia (a0.getD a1.toNat 0)), (34, ia a5), (35, ia (a0.getD a1.toNat 0)), (36, ia a6), (37, .bool (false)), (40, ia (a0.getD a1.toNat 0)), (41, ia a7), (42, ia (a0.getD a1.toNat 0)), (43, ia a8), (44, .bool (false)), (46, .bool (false)), (47, ia (a0.getD a1.toNat 0)), (48, ia a9), (49, ia (a0.getD a1.toNat 0))] (by kernel_rfl) ?_
        obtain ⟨b0, g0, H⟩ := b1_out H
        have hq := confidantref5_Pushes.calls g0 hS
        refine EL.of (EO.callD 14 [ia (a0.getD a1.toNat 0)] _ 50 (by kernel_rfl) (by kernel_rfl) (by kernel_rfl) hq ?_)
        rintro v w ⟨rfl, hS⟩
        refine EL.quick 3 [1, 6, 21, 22, 23, 33, 34, 35, 36, 37, 40, 41, 42, 43, 44, 47, 48, 49, 50, 51, 53] [(1, .string a4), (6, ia (a0.getD a1.toNat 0)), (21, sv (some ⟨a2, 0, none⟩) 2 a0), (22, ia (a0.length : Int)), (23, ia a1), (33, ia (a0.getD a1.toNat 0)), (34, ia a5), (35, ia (a0.getD a1.toNat 0)), (36, ia a6), (37, .bool (false)), (40, ia (a0.getD a1.toNat 0)), (41, ia a7), (42, ia (a0.getD a1.toNat 0)), (43, ia a8), (44, .bool (false)), (47, ia (a0.getD a1.toNat 0)), (48, ia a9), (49, ia (a0.getD a1.toNat 0)), (50, ia b0), (51, .bool (!(decide (a9 = b0)))), (53, .bool (!(decide (a9 = b0))))] (by kernel_rfl) ?_
        by_cases d7 : a9 = b0
        ·rw [if_pos d7] at H
         refine EL.keep [1, 6, 21, 22, 23, 33, 34, 35, 36, 37, 40, 41, 42, 43, 44, 47, 48, 49, 50, 51, 53] [(1, .string a4), (6, ia (a0.getD a1.toNat 0)), (21, sv (some ⟨a2, 0, none⟩) 2 a0), (22, ia (a0.length : Int)), (23, ia a1), (33, ia (a0.getD a1.toNat 0)), (34, ia a5), (35, ia (a0.getD a1.toNat 0)), (36, ia a6), (37, .bool (false)), (40, ia (a0.getD a1.toNat 0)), (41, ia a7), (42, ia (a0.getD a1.toNat 0)), (43, ia a8), (44, .bool (false)), (47, ia (a0.getD a1.toNat 0)), (48, ia a9), (49, ia (a0.getD a1.toNat 0)), (50, ia b0), (51, .bool (!(decide (a9 = b0)))), (53, .bool (!(decide (a9 = b0))))] (by kernel_rfl) ?_
         refine EL.as' [(1, .string a4), (6, ia (a0.getD a1.toNat 0)), (21, sv (some ⟨a2, 0, none⟩) 2 a0), (22, ia (a0.length : Int)), (23, ia a1), (33, ia (a0.getD a1.toNat 0)), (34, ia a5), (35, ia (a0.getD a1.toNat 0)), (36, ia a6), (37, .bool (false)), (40, ia (a0.getD a1.toNat 0)), (41, ia a7), (42, ia (a0.getD a1.toNat 0)), (43, ia a8), (44, .bool (false)), (47, ia (a0.getD a1.toNat 0)), (48, ia a9), (49, ia (a0.getD a1.toNat 0)), (50, ia b0), (51, .bool (false)), (53, .bool (false))] (by simp only [sv, dec_t d7, Bool.not_true, Bool.not_false]) ?_
         refine EL.quick 1 [1, 6, 21, 22, 23, 33, 34, 35, 36, 37, 40, 41, 42, 43, 44, 47, 48, 49, 50, 51, 53, 54] [(1, .string a4), (6, ia (a0.getD a1.toNat 0)), (21, sv (some ⟨a2, 0, none⟩) 2 a0), (22, ia (a0.length : Int)), (23, ia a1), (33, ia (a0.getD a1.toNat 0)), (34, ia a5), (35, ia (a0.getD a1.toNat 0)), (36, ia a6), (37, .bool (false)), (40, ia (a0.getD a1.toNat 0)), (41, ia a7), (42, ia (a0.getD a1.toNat 0)), (43, ia a8), (44, .bool (false)), (47, ia (a0.getD a1.toNat 0)), (48, ia a9), (49, ia (a0.getD a1.toNat 0)), (50, ia b0), (51, .bool (false)), (53, .bool (false)), (54, ia (a0.getD a1.toNat 0))] (by kernel_rfl) ?_
         obtain ⟨b5, g1, H⟩ := b1_out H
         have hq := ops_Ends.calls g1 hS
         refine EL.of (EO.callD 15 [ia (a0.getD a1.toNat 0)] _ 55 (by kernel_rfl) (by kernel_rfl) (by kernel_rfl) hq ?_)
         rintro v w ⟨rfl, hS⟩
         refine EL.quick 1 [1, 6, 21, 22, 23, 33, 34, 35, 36, 37, 40, 41, 42, 43, 44, 47, 48, 49, 50, 51, 53, 54, 55, 56] [(1, .string a4), (6, ia (a0.getD a1.toNat 0)), (21, sv (some ⟨a2, 0, none⟩) 2 a0), (22, ia (a0.length : Int)), (23, ia a1), (33, ia (a0.getD a1.toNat 0)), (34, ia a5), (35, ia (a0.getD a1.toNat 0)), (36, ia a6), (37, .bool (false)), (40, ia (a0.getD a1.toNat 0)), (41, ia a7), (42, ia (a0.getD a1.toNat 0)), (43, ia a8), (44, .bool (false)), (47, ia (a0.getD a1.toNat 0)), (48, ia a9), (49, ia (a0.getD a1.toNat 0)), (50, ia b0), (51, .bool (false)), (53, .bool (false)), (54, ia (a0.getD a1.toNat 0)), (55, .bool (b5)), (56, ia (a0.getD a1.toNat 0))] (by kernel_rfl) ?_
         obtain ⟨b6, g2, H⟩ := b1_out H
         have hq := confidantref5_Ends.calls g2 hS
         refine EL.of (EO.callD 16 [ia (a0.getD a1.toNat 0)] _ 57 (by kernel_rfl) (by kernel_rfl) (by kernel_rfl) hq ?_)
         rintro v w ⟨rfl, hS⟩
         refine EL.quick 3 [1, 6, 21, 22, 23, 33, 34, 35, 36, 37, 40, 41, 42, 43, 44, 47, 48, 49, 50, 51, 54, 55, 56, 57, 58, 60] [(1, .string a4), (6, ia (a0.getD a1.toNat 0)), (21, sv (some ⟨a2, 0, none⟩) 2 a0), (22, ia (a0.length : Int)), (23, ia a1), (33, ia (a0.getD a1.toNat 0)), (34, ia a5), (35, ia (a0.getD a1.toNat 0)), (36, ia a6), (37, .bool (false)), (40, ia (a0.getD a1.toNat 0)), (41, ia a7), (42, ia (a0.getD a1.toNat 0)), (43, ia a8), (44, .bool (false)), (47, ia (a0.getD a1.toNat 0)), (48, ia a9), (49, ia (a0.getD a1.toNat 0)), (50, ia b0), (51, .bool (false)), (54, ia (a0.getD a1.toNat 0)), (55, .bool (b5)), (56, ia (a0.getD a1.toNat 0)), (57, .bool (b6)), (58, .bool (!((b5 == b6)))), (60, .bool (!((b5 == b6))))] (by kernel_rfl) ?_
         by_cases d8 : (b5 == b6) = true
         ·rw [if_pos d8] at H
          refine EL.keep [1, 6, 21, 22, 23, 33, 34, 35, 36, 37, 40, 41, 42, 43, 44, 47, 48, 49, 50, 51, 54, 55, 56, 57, 58, 60] [(1, .string a4), (6, ia (a0.getD a1.toNat 0)), (21, sv (some ⟨a2, 0, none⟩) 2 a0), (22, ia (a0.length : Int)), (23, ia a1), (33, ia (a0.getD a1.toNat 0)), (34, ia a5), (35, ia (a0.getD a1.toNat 0)), (36, ia a6), (37, .bool (false)), (40, ia (a0.getD a1.toNat 0)), (41, ia a7), (42, ia (a0.getD a1.toNat 0)), (43, ia a8), (44, .bool (false)), (47, ia (a0.getD a1.toNat 0)), (48, ia a9), (49, ia (a0.getD a1.toNat 0)), (50, ia b0), (51, .bool (false)), (54, ia (a0.getD a1.toNat 0)), (55, .bool (b5)), (56, ia (a0.getD a1.toNat 0)), (57, .bool (b6)), (58, .bool (!((b5 == b6)))), (60, .bool (!((b5 == b6))))] (by kernel_rfl) ?_
          refine EL.as' [(1, .string a4), (6, ia (a0.getD a1.toNat 0)), (21, sv (some ⟨a2, 0, none⟩) 2 a0), (22, ia (a0.length : Int)), (23, ia a1), (33, ia (a0.getD a1.toNat 0)), (34, ia a5), (35, ia (a0.getD a1.toNat 0)), (36, ia a6), (37, .bool (false)), (40, ia (a0.getD a1.toNat 0)), (41, ia a7), (42, ia (a0.getD a1.toNat 0)), (43, ia a8), (44, .bool (false)), (47, ia (a0.getD a1.toNat 0)), (48, ia a9), (49, ia (a0.getD a1.toNat 0)), (50, ia b0), (51, .bool (false)), (54, ia (a0.getD a1.toNat 0)), (55, .bool (b5)), (56, ia (a0.getD a1.toNat 0)), (57, .bool (b6)), (58, .bool (false)), (60, .bool (false))] (by simp only [sv, d8, Bool.not_true, Bool.not_false]) ?_
          refine EL.quick 1 [1, 6, 21, 22, 23, 33, 34, 35, 36, 37, 40, 41, 42, 43, 44, 47, 48, 49, 50, 51, 54, 55, 56, 57, 58, 60, 61] [(1, .string a4), (6, ia (a0.getD a1.toNat 0)), (21, sv (some ⟨a2, 0, none⟩) 2 a0), (22, ia (a0.length : Int)), (23, ia a1), (33, ia (a0.getD a1.toNat 0)), (34, ia a5), (35, ia (a0.getD a1.toNat 0)), (36, ia a6), (37, .bool (false)), (40, ia (a0.getD a1.toNat 0)), (41, ia a7), (42, ia (a0.getD a1.toNat 0)), (43, ia a8), (44, .bool (false)), (47, ia (a0.getD a1.toNat 0)), (48, ia a9), (49, ia (a0.getD a1.toNat 0)), (50, ia b0), (51, .bool (false)), (54, ia (a0.getD a1.toNat 0)), (55, .bool (b5)), (56, ia (a0.getD a1.toNat 0)), (57, .bool (b6)), (58, .bool (false)), (60, .bool (false)), (61, ia (a0.getD a1.toNat 0))] (by kernel_rfl) ?_
          obtain ⟨c1, g3, H⟩ := b1_out H
          have hq := ops_Name.calls g3 hS gB
          refine EL.of (EO.callD 17 [ia (a0.getD a1.toNat 0)] _ 62 (by kernel_rfl) (by kernel_rfl) (by kernel_rfl) hq ?_)
          rintro v w ⟨rfl, hS⟩
          refine EL.quick 1 [1, 6, 21, 22, 23, 33, 34, 35, 36, 37, 40, 41, 42, 43, 44, 47, 48, 49, 50, 51, 54, 55, 56, 57, 58, 60, 61, 62, 63] [(1, .string a4), (6, ia (a0.getD a1.toNat 0)), (21, sv (some ⟨a2, 0, none⟩) 2 a0), (22, ia (a0.length : Int)), (23, ia a1), (33, ia (a0.getD a1.toNat 0)), (34, ia a5), (35, ia (a0.getD a1.toNat 0)), (36, ia a6), (37, .bool (false)), (40, ia (a0.getD a1.toNat 0)), (41, ia a7), (42, ia (a0.getD a1.toNat 0)), (43, ia a8), (44, .bool (false)), (47, ia (a0.getD a1.toNat 0)), (48, ia a9), (49, ia (a0.getD a1.toNat 0)), (50, ia b0), (51, .bool (false)), (54, ia (a0.getD a1.toNat 0)), (55, .bool (b5)), (56, ia (a0.getD a1.toNat 0)), (57, .bool (b6)), (58, .bool (false)), (60, .bool (false)), (61, ia (a0.getD a1.toNat 0)), (62, .string c1), (63, ia (a0.getD a1.toNat 0))] (by kernel_rfl) ?_
          obtain ⟨c4, g4, H⟩ := b1_out H
          have hq := confidantref5_Name.calls g4 hS
          refine EL.of (EO.callD 18 [ia (a0.getD a1.toNat 0)] _ 64 (by kernel_rfl) (by kernel_rfl) (by kernel_rfl) hq ?_)
          rintro v w ⟨rfl, hS⟩
          refine EL.quick 2 [1, 6, 21, 22, 23, 33, 34, 35, 36, 37, 40, 41, 42, 43, 44, 47, 48, 49, 50, 51, 54, 55, 56, 57, 58, 61, 62, 63, 64, 65, 66] [(1, .string a4), (6, ia (a0.getD a1.toNat 0)), (21, sv (some ⟨a2, 0, none⟩) 2 a0), (22, ia (a0.length : Int)), (23, ia a1), (33, ia (a0.getD a1.toNat 0)), (34, ia a5), (35, ia (a0.getD a1.toNat 0)), (36, ia a6), (37, .bool (false)), (40, ia (a0.getD a1.toNat 0)), (41, ia a7), (42, ia (a0.getD a1.toNat 0)), (43, ia a8), (44, .bool (false)), (47, ia (a0.getD a1.toNat 0)), (48, ia a9), (49, ia (a0.getD a1.toNat 0)), (50, ia b0), (51, .bool (false)), (54, ia (a0.getD a1.toNat 0)), (55, .bool (b5)), (56, ia (a0.getD a1.toNat 0)), (57, .bool (b6)), (58, .bool (false)), (61, ia (a0.getD a1.toNat 0)), (62, .string c1), (63, ia (a0.getD a1.toNat 0)), (64, .string c4), (65, .bool (!((c1.toList == c4.toList)))), (66, .bool (!((c1.toList == c4.toList))))] (by kernel_rfl) ?_
          refine EL.done (by kernel_rfl) ?_
          refine EQ.to ?_
          refine EQ.keep [1, 6, 21, 22, 23, 66] [(1, .string a4), (6, ia (a0.getD a1.toNat 0)), (21, sv (some ⟨a2, 0, none⟩) 2 a0), (22, ia (a0.length : Int)), (23, ia a1), (66, .bool (!((c1.toList == c4.toList))))] (by kernel_rfl) ?_
          exact fun a ha => ⟨!((c1.toList == c4.toList)), ha, (hS.re [0] [] rfl (sub_self)), H⟩
         rw [if_neg d8] at H
         refine EL.keep [1, 6, 21, 22, 23, 33, 34, 35, 36, 37, 40, 41, 42, 43, 44, 47, 48, 49, 50, 51, 54, 55, 56, 57, 58, 60] [(1, .string a4), (6, ia (a0.getD a1.toNat 0)), (21, sv (some ⟨a2, 0, none⟩) 2 a0), (22, ia (a0.length : Int)), (23, ia a1), (33, ia (a0.getD a1.toNat 0)), (34, ia a5), (35, ia (a0.getD a1.toNat 0)), (36, ia a6), (37, .bool (false)), (40, ia (a0.getD a1.toNat 0)), (41, ia a7), (42, ia (a0.getD a1.toNat 0)), (43, ia a8), (44, .bool (false)), (47, ia (a0.getD a1.toNat 0)), (48, ia a9), (49, ia (a0.getD a1.toNat 0)), (50, ia b0), (51, .bool (false)), (54, ia (a0.getD a1.toNat 0)), (55, .bool (b5)), (56, ia (a0.getD a1.toNat 0)), (57, .bool (b6)), (58, .bool (!((b5 == b6)))), (60, .bool (!((b5 == b6))))] (by kernel_rfl) ?_
         refine EL.as' [(1, .string a4), (6, ia (a0.getD a1.toNat 0)), (21, sv (some ⟨a2, 0, none⟩) 2 a0), (22, ia (a0.length : Int)), (23, ia a1), (33, ia (a0.getD a1.toNat 0)), (34, ia a5), (35, ia (a0.getD a1.toNat 0)), (36, ia a6), (37, .bool (false)), (40, ia (a0.getD a1.toNat 0)), (41, ia a7), (42, ia (a0.getD a1.toNat 0)), (43, ia a8), (44, .bool (false)), (47, ia (a0.getD a1.toNat 0)), (48, ia a9), (49, ia (a0.getD a1.toNat 0)), (50, ia b0), (51, .bool (false)), (54, ia (a0.getD a1.toNat 0)), (55, .bool (b5)), (56, ia (a0.getD a1.toNat 0)), (57, .bool (b6)), (58, .bool (true)), (60, .bool (true))] (by simp only [sv, (Bool.eq_false_iff.2 d8), Bool.not_true, Bool.not_false]) ?_
         refine EL.quick 6 [1, 6, 21, 22, 23, 33, 34, 35, 36, 37, 40, 41, 42, 43, 44, 47, 48, 49, 50, 51, 54, 55, 56, 57, 58, 66] [(1, .string a4), (6, ia (a0.getD a1.toNat 0)), (21, sv (some ⟨a2, 0, none⟩) 2 a0), (22, ia (a0.length : Int)), (23, ia a1), (33, ia (a0.getD a1.toNat 0)), (34, ia a5), (35, ia (a0.getD a1.toNat 0)), (36, ia a6), (37, .bool (false)), (40, ia (a0.getD a1.toNat 0)), (41, ia a7), (42, ia (a0.getD a1.toNat 0)), (43, ia a8), (44, .bool (false)), (47, ia (a0.getD a1.toNat 0)), (48, ia a9), (49, ia (a0.getD a1.toNat 0)), (50, ia b0), (51, .bool (false)), (54, ia (a0.getD a1.toNat 0)), (55, .bool (b5)), (56, ia (a0.getD a1.toNat 0)), (57, .bool (b6)), (58, .bool (true)), (66, .bool (true))] (by kernel_rfl) ?_
         refine EL.done (by kernel_rfl) ?_
         refine EQ.to ?_
         refine EQ.keep [1, 6, 21, 22, 23, 66] [(1, .string a4), (6, ia (a0.getD a1.toNat 0)), (21, sv (some ⟨a2, 0, none⟩) 2 a0), (22, ia (a0.length : Int)), (23, ia a1), (66, .bool (true))] (by kernel_rfl) ?_
         exact fun a ha => ⟨true, ha, (hS.re [0] [] rfl (sub_self)), H⟩
        rw [if_neg d7] at H
        refine EL.keep [1, 6, 21, 22, 23, 33, 34, 35, 36, 37, 40, 41, 42, 43, 44, 47, 48, 49, 50, 51, 53] [(1, .string a4), (6, ia (a0.getD a1.toNat 0)), (21, sv (some ⟨a2, 0, none⟩) 2 a0), (22, ia (a0.length : Int)), (23, ia a1), (33, ia (a0.getD a1.toNat 0)), (34, ia a5), (35, ia (a0.getD a1.toNat 0)), (36, ia a6), (37, .bool (false)), (40, ia (a0.getD a1.toNat 0)), (41, ia a7), (42, ia (a0.getD a1.toNat 0)), (43, ia a8), (44, .bool (false)), (47, ia (a0.getD a1.toNat 0)), (48, ia a9), (49, ia (a0.getD a1.toNat 0)), (50, ia b0), (51, .bool (!(decide (a9 = b0)))), (53, .bool (!(decide (a9 = b0))))] (by kernel_rfl) ?_
        refine EL.as' [(1, .string a4), (6, ia (a0.getD a1.toNat 0)), (21, sv (some ⟨a2, 0, none⟩) 2 a0), (22, ia (a0.length : Int)), (23, ia a1), (33, ia (a0.getD a1.toNat 0)), (34, ia a5), (35, ia (a0.getD a1.toNat 0)), (36, ia a6), (37, .bool (false)), (40, ia (a0.getD a1.toNat 0)), (41, ia a7), (42, ia (a0.getD a1.toNat 0)), (43, ia a8), (44, .bool (false)), (47, ia (a0.getD a1.toNat 0)), (48, ia a9), (49, ia (a0.getD a1.toNat 0)), (50, ia b0), (51, .bool (true)), (53, .bool (true))] (by simp only [sv, dec_f d7, Bool.not_true, Bool.not_false]) ?_
        refine EL.quick 13 [1, 6, 21, 22, 23, 33, 34, 35, 36, 37, 40, 41, 42, 43, 44, 47, 48, 49, 50, 51, 66] [(1, .string a4), (6, ia (a0.getD a1.toNat 0)), (21, sv (some ⟨a2, 0, none⟩) 2 a0), (22, ia (a0.length : Int)), (23, ia a1), (33, ia (a0.getD a1.toNat 0)), (34, ia a5), (35, ia (a0.getD a1.toNat 0)), (36, ia a6), (37, .bool (false)), (40, ia (a0.getD a1.toNat 0)), (41, ia a7), (42, ia (a0.getD a1.toNat 0)), (43, ia a8), (44, .bool (false)), (47, ia (a0.getD a1.toNat 0)), (48, ia a9), (49, ia (a0.getD a1.toNat 0)), (50, ia b0), (51, .bool (true)), (66, .bool (true))] (by kernel_rfl) ?_
        refine EL.done (by kernel_rfl) ?_
        refine EQ.to ?_
        refine EQ.keep [1, 6, 21, 22, 23, 66] [(1, .string a4), (6, ia (a0.getD a1.toNat 0)), (21, sv (some ⟨a2, 0, none⟩) 2 a0), (22, ia (a0.length : Int)), (23, ia a1), (66, .bool (true))] (by kernel_rfl) ?_
        exact fun a ha => ⟨true, ha, (hS.re [0] [] rfl (sub_self)), H⟩
       rw [if_neg d6] at H
       refine EL.keep [1, 6, 21, 22, 23, 33, 34, 35, 36, 37, 40, 41, 42, 43, 44, 46] [(1, .string a4), (6, ia (a0.getD a1.toNat 0)), (21, sv (some ⟨a2, 0, none⟩) 2 a0), (22, ia (a0.length : Int)), (23, ia a1), (33, ia (a0.getD a1.toNat 0)), (34, ia a5), (35, ia (a0.getD a1.toNat 0)), (36, ia a6), (37, .bool (false)), (40, ia (a0.getD a1.toNat 0)), (41, ia a7), (42, ia (a0.getD a1.toNat 0)), (43, ia a8), (44, .bool (!(decide (a7 = a8)))), (46, .bool (!(decide (a7 = a8))))] (by kernel_rfl) ?_
       refine EL.as' [(1, .string a4), (6, ia (a0.getD a1.toNat 0)), (21, sv (some ⟨a2, 0, none⟩) 2 a0), (22, ia (a0.length : Int)), (23, ia a1), (33, ia (a0.getD a1.toNat 0)), (34, ia a5), (35, ia (a0.getD a1.toNat 0)), (36, ia a6), (37, .bool (false)), (40, ia (a0.getD a1.toNat 0)), (41, ia a7), (42, ia (a0.getD a1.toNat 0)), (43, ia a8), (44, .bool (true)), (46, .bool (true))] (by simp only [sv, dec_f d6, Bool.not_true, Bool.not_false]) ?_
       refine EL.quick 20 [1, 6, 21, 22, 23, 33, 34, 35, 36, 37, 40, 41, 42, 43, 44, 66] [(1, .string a4), (6, ia (a0.getD a1.toNat 0)), (21, sv (some ⟨a2, 0, none⟩) 2 a0), (22, ia (a0.length : Int)), (23, ia a1), (33, ia (a0.getD a1.toNat 0)), (34, ia a5), (35, ia (a0.getD a1.toNat 0)), (36, ia a6), (37, .bool (false)), (40, ia (a0.getD a1.toNat 0)), (41, ia a7), (42, ia (a0.getD a1.toNat 0)), (43, ia a8), (44, .bool (true)), (66, .bool (true))] (by kernel_rfl) ?_
       refine EL.done (by kernel_rfl) ?_
       refine EQ.to ?_
       refine EQ.keep [1, 6, 21, 22, 23, 66] [(1, .string a4), (6, ia (a0.getD a1.toNat 0)), (21, sv (some ⟨a2, 0, none⟩) 2 a0), (22, ia (a0.length : Int)), (23, ia a1), (66, .bool (true))] (by kernel_rfl) ?_
       exact fun a ha => ⟨true, ha, (hS.re [0] [] rfl (sub_self)), H⟩
      rw [if_neg d5] at H
      refine EL.keep [1, 6, 21, 22, 23, 33, 34, 35, 36, 37, 39] [(1, .string a4), (6, ia (a0.getD a1.toNat 0)), (21, sv (some ⟨a2, 0, none⟩) 2 a0), (22, ia (a0.length : Int)), (23, ia a1), (33, ia (a0.getD a1.toNat 0)), (34, ia a5), (35, ia (a0.getD a1.toNat 0)), (36, ia a6), (37, .bool (!(decide (a5 = a6)))), (39, .bool (!(decide (a5 = a6))))] (by kernel_rfl) ?_
      refine EL.as' [(1, .string a4), (6, ia (a0.getD a1.toNat 0)), (21, sv (some ⟨a2, 0, none⟩) 2 a0), (22, ia (a0.length : Int)), (23, ia a1), (33, ia (a0.getD a1.toNat 0)), (34, ia a5), (35, ia (a0.getD a1.toNat 0)), (36, ia a6), (37, .bool (true)), (39, .bool (true))] (by simp only [sv, dec_f d5, Bool.not_true, Bool.not_false]) ?_
      refine EL.quick 27 [1, 6, 21, 22, 23, 33, 34, 35, 36, 37, 66] [(1, .string a4), (6, ia (a0.getD a1.toNat 0)), (21, sv (some ⟨a2, 0, none⟩) 2 a0), (22, ia (a0.length : Int)), (23, ia a1), (33, ia (a0.getD a1.toNat 0)), (34, ia a5), (35, ia (a0.getD a1.toNat 0)), (36, ia a6), (37, .bool (true)), (66, .bool (true))] (by kernel_rfl) ?_
      refine EL.done (by kernel_rfl) ?_
      refine EQ.to ?_
      refine EQ.keep [1, 6, 21, 22, 23, 66] [(1, .string a4), (6, ia (a0.getD a1.toNat 0)), (21, sv (some ⟨a2, 0, none⟩) 2 a0), (22, ia (a0.length : Int)), (23, ia a1), (66, .bool (true))] (by kernel_rfl) ?_
      exact fun a ha => ⟨true, ha, (hS.re [0] [] rfl (sub_self)), H⟩
     rw [if_neg d4] at H
     refine EL.keep [1, 6, 21, 22, 23, 32] [(1, .string a4), (6, ia (a0.getD a1.toNat 0)), (21, sv (some ⟨a2, 0, none⟩) 2 a0), (22, ia (a0.length : Int)), (23, ia a1), (32, .bool (!((c3 == c6))))] (by kernel_rfl) ?_
     refine EL.as' [(1, .string a4), (6, ia (a0.getD a1.toNat 0)), (21, sv (some ⟨a2, 0, none⟩) 2 a0), (22, ia (a0.length : Int)), (23, ia a1), (32, .bool (true))] (by simp only [sv, (Bool.eq_false_iff.2 d4), Bool.not_true, Bool.not_false]) ?_
     refine EL.quick 34 [1, 6, 21, 22, 23, 66] [(1, .string a4), (6, ia (a0.getD a1.toNat 0)), (21, sv (some ⟨a2, 0, none⟩) 2 a0), (22, ia (a0.length : Int)), (23, ia a1), (66, .bool (true))] (by kernel_rfl) ?_
     refine EL.done (by kernel_rfl) ?_
     refine EQ.to ?_
     refine EQ.keep [1, 6, 21, 22, 23, 66] [(1, .string a4), (6, ia (a0.getD a1.toNat 0)), (21, sv (some ⟨a2, 0, none⟩) 2 a0), (22, ia (a0.length : Int)), (23, ia a1), (66, .bool (true))] (by kernel_rfl) ?_
     exact fun a ha => ⟨true, ha, (hS.re [0] [] rfl (sub_self)), H⟩
    obtain ⟨c9, ha, hS, H⟩ := hI
    rw [i1] at H
    (try dsimp only at H)
    refine EW.at ?_ a ha
    clear ha a
    refine EW.cdP' (c9) (by kernel_rfl) (by kernel_rfl) (fun e5 => ?_) (fun e5 => ?_)
    ·rw [if_pos e5] at H
     refine EW.sq (by kernel_rfl) ?_
     refine EW.rg (by kernel_rfl) ?_
     refine EL.quick 1 [4] [(4, .bool (false))] (by kernel_rfl) ?_
     refine EL.done (by kernel_rfl) ?_
     refine EQ.code ?_
     refine EW.ret (by kernel_rfl) ?_
     refine EQ.ret ?_
     refine EQ.ret ?_
     refine EQ.ret ?_
     refine EQ.ret ?_
     refine EQ.ret ?_
     refine EQ.ret ?_
     obtain rfl := Option.some.inj H
     exact EQ.leave (.bool (false)) (by kernel_rfl) ⟨_, rfl, rfl, (hS.re [] [0] rfl (sub_self))⟩
    rw [if_neg e5] at H
    refine EW.skip (by kernel_rfl) ?_
    refine EQ.code ?_
    refine EW.sq (by kernel_rfl) ?_
    refine EW.rg (by kernel_rfl) ?_
    refine EL.quick 1 [1, 6, 21, 22, 23, 68] [(1, .string a4), (6, ia (a0.getD a1.toNat 0)), (21, sv (some ⟨a2, 0, none⟩) 2 a0), (22, ia (a0.length : Int)), (23, ia a1), (68, ia (a0.getD a1.toNat 0))] (by kernel_rfl) ?_
    obtain ⟨e7, g5, H⟩ := b1_out H
    have hq := ops_Name.calls g5 hS gB
    refine EL.of (EO.callD 17 [ia (a0.getD a1.toNat 0)] _ 69 (by kernel_rfl) (by kernel_rfl) (by kernel_rfl) hq ?_)
    rintro v w ⟨rfl, hS⟩
    obtain ⟨b4, b3, g6, H⟩ := b2_out H
    have hq := ops_Find.calls g6 hS gB
    refine EL.of (EO.callD 19 [.string e7] _ 70 (by kernel_rfl) (by kernel_rfl) (by kernel_rfl) hq ?_)
    rintro v w ⟨rfl, hS⟩
    refine EL.quick 5 [1, 6, 7, 8, 21, 22, 23] [(1, .string a4), (6, ia (a0.getD a1.toNat 0)), (7, ia b4), (8, .bool (b3)), (21, sv (some ⟨a2, 0, none⟩) 2 a0), (22, ia (a0.length : Int)), (23, ia a1)] (by kernel_rfl) ?_
    refine EL.done (by kernel_rfl) ?_
    refine EQ.code ?_
    obtain ⟨d2, i2, H⟩ := lt_out H
    refine EW.ct (fun a w => ∃ d0 : Bool, Sat 104 [(1, .string a4), (21, sv (some ⟨a2, 0, none⟩) 2 a0), (22, ia (a0.length : Int)), (23, ia a1), (84, .bool (d0))] a ∧ St B w (Ass.own 3 (Kd.int .i64) (some ⟨a2, 0, none⟩) 2 a0 :: os) (rs) ∧ d2 d0 = some c8) (by kernel_rfl) ?_ (fun a w hI => ?_)
    ·refine EW.rg (by kernel_rfl) ?_
     refine EL.quick 2 [1, 6, 7, 8, 21, 22, 23, 73, 74] [(1, .string a4), (6, ia (a0.getD a1.toNat 0)), (7, ia b4), (8, .bool (b3)), (21, sv (some ⟨a2, 0, none⟩) 2 a0), (22, ia (a0.length : Int)), (23, ia a1), (73, .bool (b3)), (74, ia (a0.getD a1.toNat 0))] (by kernel_rfl) ?_
     obtain ⟨c7, g7, H⟩ := b1_out H
     have hq := confidantref5_Known.calls g7 hS
     refine EL.of (EO.callD 8 [ia (a0.getD a1.toNat 0)] _ 75 (by kernel_rfl) (by kernel_rfl) (by kernel_rfl) hq ?_)
     rintro v w ⟨rfl, hS⟩
     refine EL.quick 2 [1, 6, 7, 8, 21, 22, 23, 77] [(1, .string a4), (6, ia (a0.getD a1.toNat 0)), (7, ia b4), (8, .bool (b3)), (21, sv (some ⟨a2, 0, none⟩) 2 a0), (22, ia (a0.length : Int)), (23, ia a1), (77, .bool (!((b3 == c7))))] (by kernel_rfl) ?_
     by_cases d9 : (b3 == c7) = true
     ·rw [if_pos d9] at H
      refine EL.keep [1, 6, 7, 8, 21, 22, 23, 77] [(1, .string a4), (6, ia (a0.getD a1.toNat 0)), (7, ia b4), (8, .bool (b3)), (21, sv (some ⟨a2, 0, none⟩) 2 a0), (22, ia (a0.length : Int)), (23, ia a1), (77, .bool (!((b3 == c7))))] (by kernel_rfl) ?_
      refine EL.as' [(1, .string a4), (6, ia (a0.getD a1.toNat 0)), (7, ia b4), (8, .bool (b3)), (21, sv (some ⟨a2, 0, none⟩) 2 a0), (22, ia (a0.length : Int)), (23, ia a1), (77, .bool (false))] (by simp only [sv, d9, Bool.not_true, Bool.not_false]) ?_
      refine EL.quick 2 [1, 6, 7, 21, 22, 23, 77, 78, 79] [(1, .string a4), (6, ia (a0.getD a1.toNat 0)), (7, ia b4), (21, sv (some ⟨a2, 0, none⟩) 2 a0), (22, ia (a0.length : Int)), (23, ia a1), (77, .bool (false)), (78, .bool (b3)), (79, .bool (b3))] (by kernel_rfl) ?_
      by_cases e0 : b3 = true
      ·rw [if_pos e0] at H
       refine EL.keep [1, 6, 7, 21, 22, 23, 77, 78, 79] [(1, .string a4), (6, ia (a0.getD a1.toNat 0)), (7, ia b4), (21, sv (some ⟨a2, 0, none⟩) 2 a0), (22, ia (a0.length : Int)), (23, ia a1), (77, .bool (false)), (78, .bool (b3)), (79, .bool (b3))] (by kernel_rfl) ?_
       refine EL.as' [(1, .string a4), (6, ia (a0.getD a1.toNat 0)), (7, ia b4), (21, sv (some ⟨a2, 0, none⟩) 2 a0), (22, ia (a0.length : Int)), (23, ia a1), (77, .bool (false)), (78, .bool (true)), (79, .bool (true))] (by simp only [sv, e0, Bool.not_true, Bool.not_false]) ?_
       refine EL.quick 5 [1, 21, 22, 23, 78, 79, 80, 81, 82, 83, 84] [(1, .string a4), (21, sv (some ⟨a2, 0, none⟩) 2 a0), (22, ia (a0.length : Int)), (23, ia a1), (78, .bool (true)), (79, .bool (true)), (80, ia b4), (81, ia (a0.getD a1.toNat 0)), (82, .bool (!(decide (b4 = (a0.getD a1.toNat 0))))), (83, .bool (!(decide (b4 = (a0.getD a1.toNat 0))))), (84, .bool (!(decide (b4 = (a0.getD a1.toNat 0)))))] (by kernel_rfl) ?_
       refine EL.done (by kernel_rfl) ?_
       refine EQ.to ?_
       refine EQ.keep [1, 21, 22, 23, 84] [(1, .string a4), (21, sv (some ⟨a2, 0, none⟩) 2 a0), (22, ia (a0.length : Int)), (23, ia a1), (84, .bool (!(decide (b4 = (a0.getD a1.toNat 0)))))] (by kernel_rfl) ?_
       exact fun a ha => ⟨!(decide (b4 = (a0.getD a1.toNat 0))), ha, (hS.re [0] [] rfl (sub_self)), H⟩
      rw [if_neg e0] at H
      refine EL.keep [1, 6, 7, 21, 22, 23, 77, 78, 79] [(1, .string a4), (6, ia (a0.getD a1.toNat 0)), (7, ia b4), (21, sv (some ⟨a2, 0, none⟩) 2 a0), (22, ia (a0.length : Int)), (23, ia a1), (77, .bool (false)), (78, .bool (b3)), (79, .bool (b3))] (by kernel_rfl) ?_
      refine EL.as' [(1, .string a4), (6, ia (a0.getD a1.toNat 0)), (7, ia b4), (21, sv (some ⟨a2, 0, none⟩) 2 a0), (22, ia (a0.length : Int)), (23, ia a1), (77, .bool (false)), (78, .bool (false)), (79, .bool (false))] (by simp only [sv, (Bool.eq_false_iff.2 e0), Bool.not_true, Bool.not_false]) ?_
      refine EL.quick 5 [1, 21, 22, 23, 78, 79, 83, 84] [(1, .string a4), (21, sv (some ⟨a2, 0, none⟩) 2 a0), (22, ia (a0.length : Int)), (23, ia a1), (78, .bool (false)), (79, .bool (false)), (83, .bool (false)), (84, .bool (false))] (by kernel_rfl) ?_
      refine EL.done (by kernel_rfl) ?_
      refine EQ.to ?_
      refine EQ.keep [1, 21, 22, 23, 84] [(1, .string a4), (21, sv (some ⟨a2, 0, none⟩) 2 a0), (22, ia (a0.length : Int)), (23, ia a1), (84, .bool (false))] (by kernel_rfl) ?_
      exact fun a ha => ⟨false, ha, (hS.re [0] [] rfl (sub_self)), H⟩
     rw [if_neg d9] at H
     refine EL.keep [1, 6, 7, 8, 21, 22, 23, 77] [(1, .string a4), (6, ia (a0.getD a1.toNat 0)), (7, ia b4), (8, .bool (b3)), (21, sv (some ⟨a2, 0, none⟩) 2 a0), (22, ia (a0.length : Int)), (23, ia a1), (77, .bool (!((b3 == c7))))] (by kernel_rfl) ?_
     refine EL.as' [(1, .string a4), (6, ia (a0.getD a1.toNat 0)), (7, ia b4), (8, .bool (b3)), (21, sv (some ⟨a2, 0, none⟩) 2 a0), (22, ia (a0.length : Int)), (23, ia a1), (77, .bool (true))] (by simp only [sv, (Bool.eq_false_iff.2 d9), Bool.not_true, Bool.not_false]) ?_
     refine EL.quick 7 [1, 21, 22, 23, 84] [(1, .string a4), (21, sv (some ⟨a2, 0, none⟩) 2 a0), (22, ia (a0.length : Int)), (23, ia a1), (84, .bool (true))] (by kernel_rfl) ?_
     refine EL.done (by kernel_rfl) ?_
     refine EQ.to ?_
     refine EQ.keep [1, 21, 22, 23, 84] [(1, .string a4), (21, sv (some ⟨a2, 0, none⟩) 2 a0), (22, ia (a0.length : Int)), (23, ia a1), (84, .bool (true))] (by kernel_rfl) ?_
     exact fun a ha => ⟨true, ha, (hS.re [0] [] rfl (sub_self)), H⟩
    obtain ⟨d0, ha, hS, H⟩ := hI
    rw [i2] at H
    (try dsimp only at H)
    refine EW.at ?_ a ha
    clear ha a
    refine EW.cdP' (d0) (by kernel_rfl) (by kernel_rfl) (fun e6 => ?_) (fun e6 => ?_)
    ·rw [if_pos e6] at H
     refine EW.sq (by kernel_rfl) ?_
     refine EW.rg (by kernel_rfl) ?_
     refine EL.quick 1 [4] [(4, .bool (false))] (by kernel_rfl) ?_
     refine EL.done (by kernel_rfl) ?_
     refine EQ.code ?_
     refine EW.ret (by kernel_rfl) ?_
     refine EQ.ret ?_
     refine EQ.ret ?_
     refine EQ.ret ?_
     refine EQ.ret ?_
     refine EQ.ret ?_
     obtain rfl := Option.some.inj H
     exact EQ.leave (.bool (false)) (by kernel_rfl) ⟨_, rfl, rfl, (hS.re [] [0] rfl (sub_self))⟩
    rw [if_neg e6] at H
    refine EW.skip (by kernel_rfl) ?_
    refine EQ.pop ?_
    refine EQ.code ?_
    refine EW.rg (by kernel_rfl) ?_
    refine EL.quick 2 [1, 21, 22, 23] [(1, .string a4), (21, sv (some ⟨a2, 0, none⟩) 2 a0), (22, ia (a0.length : Int)), (23, ia (IntKind.i64.wrap (a1 + 1)))] (by kernel_rfl) ?_
    refine EL.done (by kernel_rfl) ?_
    refine EQ.to ?_
    refine EQ.keep [1, 21, 22, 23] [(1, .string a4), (21, sv (some ⟨a2, 0, none⟩) 2 a0), (22, ia (a0.length : Int)), (23, ia (IntKind.i64.wrap (a1 + 1)))] (by kernel_rfl) ?_
    exact fun a ha => ⟨n, Nat.lt_succ_self n, IntKind.i64.wrap (a1 + 1), ha, (hS.re [0] [] rfl (sub_self)), H⟩
   rw [if_neg d1] at H
   refine EW.exit (id := 0) (by kernel_rfl) ?_
   refine EQ.exitCode ?_
   refine EQ.exitTo ?_
   refine EQ.exitHere ?_
   refine EQ.to ?_
   refine EQ.keep [1] [(1, .string a4)] (by kernel_rfl) ?_
   exact fun a ha => ⟨a0, (some ⟨a2, 0, none⟩), 2, ha, (hS.re [0] [] rfl (sub_self)), H⟩
  obtain ⟨e2, e8, e9, ha, hS, H⟩ := hI
  rw [i0] at H
  (try dsimp only at H)
  refine EW.at ?_ a ha
  clear ha a
  refine EW.sq (by kernel_rfl) ?_
  refine EW.rg (by kernel_rfl) ?_
  refine EL.quick 1 [1, 87] [(1, .string a4), (87, .string a4)] (by kernel_rfl) ?_
  obtain ⟨b9, b7, g8, H⟩ := b2_out H
  have hq := ops_Find.calls g8 hS gB
  refine EL.of (EO.callD 19 [.string a4] _ 88 (by kernel_rfl) (by kernel_rfl) (by kernel_rfl) hq ?_)
  rintro v w ⟨rfl, hS⟩
  refine EL.quick 5 [1, 9, 10] [(1, .string a4), (9, ia b9), (10, .bool (b7))] (by kernel_rfl) ?_
  refine EL.done (by kernel_rfl) ?_
  refine EQ.code ?_
  refine EW.sq (by kernel_rfl) ?_
  refine EW.rg (by kernel_rfl) ?_
  refine EL.quick 1 [9, 10, 92] [(9, ia b9), (10, .bool (b7)), (92, .string a4)] (by kernel_rfl) ?_
  obtain ⟨c5, b8, g9, H⟩ := b2_out H
  have hq := confidantref5_Find.calls g9 hS
  refine EL.of (EO.callD 20 [.string a4] _ 93 (by kernel_rfl) (by kernel_rfl) (by kernel_rfl) hq ?_)
  rintro v w ⟨rfl, hS⟩
  refine EL.quick 5 [9, 10, 11, 12] [(9, ia b9), (10, .bool (b7)), (11, ia c5), (12, .bool (b8))] (by kernel_rfl) ?_
  refine EL.done (by kernel_rfl) ?_
  refine EQ.code ?_
  refine EW.sq (by kernel_rfl) ?_
  refine EW.rg (by kernel_rfl) ?_
  refine EL.quick 4 [10, 12, 99] [(10, .bool (b7)), (12, .bool (b8)), (99, .bool (decide (b9 = c5)))] (by kernel_rfl) ?_
  by_cases e1 : b9 = c5
  ·rw [if_pos e1] at H
   refine EL.keep [10, 12, 99] [(10, .bool (b7)), (12, .bool (b8)), (99, .bool (decide (b9 = c5)))] (by kernel_rfl) ?_
   refine EL.as' [(10, .bool (b7)), (12, .bool (b8)), (99, .bool (true))] (by simp only [sv, dec_t e1, Bool.not_true, Bool.not_false]) ?_
   refine EL.quick 5 [4] [(4, .bool ((b7 == b8)))] (by kernel_rfl) ?_
   refine EL.done (by kernel_rfl) ?_
   refine EQ.code ?_
   refine EW.ret (by kernel_rfl) ?_
   obtain rfl := Option.some.inj H
   exact EQ.leave (.bool ((b7 == b8))) (by kernel_rfl) ⟨_, rfl, rfl, (hS.re [] [0] rfl (sub_self))⟩
  rw [if_neg e1] at H
  refine EL.keep [10, 12, 99] [(10, .bool (b7)), (12, .bool (b8)), (99, .bool (decide (b9 = c5)))] (by kernel_rfl) ?_
  refine EL.as' [(10, .bool (b7)), (12, .bool (b8)), (99, .bool (false))] (by simp only [sv, dec_f e1, Bool.not_true, Bool.not_false]) ?_
  refine EL.quick 5 [4] [(4, .bool (false))] (by kernel_rfl) ?_
  refine EL.done (by kernel_rfl) ?_
  refine EQ.code ?_
  refine EW.ret (by kernel_rfl) ?_
  obtain rfl := Option.some.inj H
  exact EQ.leave (.bool (false)) (by kernel_rfl) ⟨_, rfl, rfl, (hS.re [] [0] rfl (sub_self))⟩
 rw [if_neg e3] at H
 refine EW.sq (by kernel_rfl) ?_
 refine EW.rg (by kernel_rfl) ?_
 refine EL.quick 1 [4] [(4, .bool (false))] (by kernel_rfl) ?_
 refine EL.done (by kernel_rfl) ?_
 refine EQ.code ?_
 refine EW.ret (by kernel_rfl) ?_
 refine EQ.ret ?_
 obtain rfl := Option.some.inj H
 exact EQ.leave (.bool (false)) (by kernel_rfl) ⟨_, rfl, rfl, (hS.re [] [] rfl (sub_self))⟩

def confidantlaw5_OpsTell.Pure : Prop := ∀ (a3 : Int) (a4 : ByteArray), (Lit.int .i64 a3).wf = true → a4.size ≤ 140737488351232 → ∃ K, confidantlaw5_OpsTell.f K a3 a4 = some true

end Go.Proofs.YtipaaapbapijhaaDoor.G
