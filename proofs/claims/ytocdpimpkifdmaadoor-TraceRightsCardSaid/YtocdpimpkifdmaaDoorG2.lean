import Derived.Test.YtocdpimpkifdmaaDoorProg
import Derived.Test.YtocdpimpkifdmaaDoorFwShort
import Derived.Test.YtocdpimpkifdmaaDoorFwOpen
import Derived.Test.YtocdpimpkifdmaaDoorDoor
import Derived.Test.YtocdpimpkifdmaaDoorG0
import Derived.Test.YtocdpimpkifdmaaDoorG1
namespace Go.Proofs.YtocdpimpkifdmaaDoor.G
open Go Go.Fw Go.RowKit Go.Proofs
set_option linter.unusedVariables false
set_option linter.unusedSimpArgs false

/-! ### confidant/confidantlaw23.TraceRights: function 7 -/
def confidantlaw23_TraceRights.f (K : Nat) (a10 : S28) (a11 : Int) (a12 : Int) : Option Bool := b1 (confidantlaw23_known.f K) fun (b3 : Bool) => (if b3 = true then (lt (fun (a7 : Int) (a5 : Int) (a4 : Int) (a3 : Int) (a2 : Int) (a1 : Bool) => (b1 (trace_Right.f K (⟨a7, a5, a4, a3, a2, a10.f5, a10.f6⟩ : S28)) fun (a9 : Bool) => (if (a9 == a1) = true then (b1 (trace_Text.f K (⟨a7, a5, a4, a3, a2, a10.f5, a10.f6⟩ : S28)) fun (b0 : ByteArray) => (if ((!((b0.toList == (⟨#[]⟩ : ByteArray).toList))) == a1) = true then (lt ([(⟨a7, a5, a4, a3, a2, a10.f5, a10.f6⟩ : S28)] : List S28) fun b2 => (b1 (trace_Put.f K b2) fun (c0 : List Int) => (some ((decide ((c0.length : Int) > 0)) == a1)))) else (some false))) else (some false)))) fun a8 => (if (Int.tmod a11 5) = 0 then (if a12 ≥ 0 then (a8 a12 3 2 1 9 (decide (a12 ≤ 65536))) else (a8 a12 3 2 1 9 false)) else (if (Int.tmod a11 5) = 1 then (if a12 ≥ 0 then (a8 5 a12 2 1 9 (decide (a12 < 16))) else (a8 5 a12 2 1 9 false)) else (if (Int.tmod a11 5) = 2 then (if a12 ≥ 1 then (a8 5 3 a12 1 9 (decide (a12 ≤ 11))) else (a8 5 3 a12 1 9 false)) else (if (Int.tmod a11 5) = 3 then (if a12 ≥ 0 then (a8 5 3 2 a12 9 (decide (a12 < 8))) else (a8 5 3 2 a12 9 false)) else (a8 5 3 2 1 (IntKind.i32.wrap a12) (decide ((IntKind.i32.wrap a12) ≥ 0)))))))) else (some false))
set_option maxRecDepth 100000 in
theorem confidantlaw23_TraceRights.calls {K : Nat} {a10 : S28} {a11 : Int} {a12 : Int} {c6 : Bool} {B w : World} {os : List Ass} {rs : List Ro} (H : confidantlaw23_TraceRights.f K a10 a11 a12 = some c6) (hS : St B w (os) (rs)) (gB : Glob B) :
  Calls Tryd.prog 7 [ag (encS28 a10), ig a11, ia a12].toArray w (fun en w' => ∃ v, en = .returned v ∧ v = .bool (c6) ∧ St B w' (os) (rs)) := by
 unfold confidantlaw23_TraceRights.f at H
 refine calls_of_EW (args := [ag (encS28 a10), ig a11, ia a12]) (c := Cd7) 84 Tryd.func7 (by kernel_rfl) (by kernel_rfl) (by kernel_rfl) ?_
 refine EW.sq (by kernel_rfl) ?_
 refine EW.rg (by kernel_rfl) ?_
 refine EL.of (EO.box hS 28 (ag (encS28 a10)) (encS28 a10) 3 (by kernel_rfl) (by kernel_rfl) (by kernel_rfl) (by first | rfl | kernel_rfl) ?_)
 intro a6 w hS
 refine EL.quick 1 [1, 2, 3] [(1, ig a11), (2, ia a12), (3, pt a6 0)] (by kernel_rfl) ?_
 refine EL.done (by kernel_rfl) ?_
 refine EQ.code ?_
 refine EW.sq (by kernel_rfl) ?_
 refine EW.sq (by kernel_rfl) ?_
 refine EW.rg (by kernel_rfl) ?_
 obtain ⟨b3, c9, H⟩ := b1_out H
 have hq := confidantlaw23_known.calls c9 hS gB
 refine EL.of (EO.callD 11 [] _ 9 (by kernel_rfl) (by kernel_rfl) (by kernel_rfl) hq ?_)
 rintro v w ⟨rfl, hS⟩
 refine EL.quick 1 [1, 2, 3, 10] [(1, ig a11), (2, ia a12), (3, pt a6 0), (10, .bool (!(b3)))] (by kernel_rfl) ?_
 refine EL.done (by kernel_rfl) ?_
 refine EQ.code ?_
 refine EW.cdQ (b := !(b3)) (b3 = true) (false) (by kernel_rfl) (by kernel_rfl) ⟨fun h => (by rw [h] <;> rfl), fun h => (by rw [Bool.eq_false_iff.2 h] <;> rfl)⟩ (fun c1 => ?_) (fun c1 => ?_)
 ·rw [if_pos c1] at H
  refine EW.skip (by kernel_rfl) ?_
  refine EQ.code ?_
  refine EW.sq (by kernel_rfl) ?_
  refine EW.rg (by kernel_rfl) ?_
  refine EL.quick 1 [1, 2, 3, 11] [(1, ig a11), (2, ia a12), (3, pt a6 0), (11, pt a6 5)] (by kernel_rfl) ?_
  refine EL.of (EO.Y (YO.loadBox hS 0 rfl 21 5 1 (ib a10.f5) 12 (by kernel_rfl) (by kernel_rfl) (by kernel_rfl) (by kernel_rfl)) ?_)
  refine EL.quick 1 [1, 2, 12, 13] [(1, ig a11), (2, ia a12), (12, ib a10.f5), (13, pt a6 6)] (by kernel_rfl) ?_
  refine EL.of (EO.Y (YO.loadBox hS 0 rfl 21 6 1 (ib a10.f6) 14 (by kernel_rfl) (by kernel_rfl) (by kernel_rfl) (by kernel_rfl)) ?_)
  refine EL.quick 1 [1, 2, 15] [(1, ig a11), (2, ia a12), (15, ag [ia 5, ia 3, ia 2, ia 1, ib 9, ib a10.f5, ib a10.f6])] (by kernel_rfl) ?_
  refine EL.of (EO.alloc hS 28 (ag (encS28 zS28)) (encS28 zS28) 7 (by kernel_rfl) (by kernel_rfl) (by kernel_rfl) (by kernel_rfl) (by first | rfl | kernel_rfl) ?_)
  intro a0 w hS
  refine EL.of (EO.storeBox (os' := Ass.box 28 a0 [ia 5, ia 3, ia 2, ia 1, ib 9, ib a10.f5, ib a10.f6] :: Ass.box 28 a6 (encS28 a10) :: os) hS 0 rfl 28 0 (ag [ia 5, ia 3, ia 2, ia 1, ib 9, ib a10.f5, ib a10.f6]) [ia 5, ia 3, ia 2, ia 1, ib 9, ib a10.f5, ib a10.f6] (by kernel_rfl) (by kernel_rfl) (by kernel_rfl) (by kernel_rfl) (by kernel_rfl) (by kernel_rfl) rfl rfl ?_)
  intro w hS
  refine EL.done (by kernel_rfl) ?_
  refine EQ.code ?_
  refine EW.sq (by kernel_rfl) ?_
  refine EW.rg (by kernel_rfl) ?_
  refine EL.quick 1 [1, 2, 7] [(1, ig a11), (2, ia a12), (7, pt a0 0)] (by kernel_rfl) ?_
  refine EL.done (by kernel_rfl) ?_
  refine EQ.code ?_
  obtain ⟨a8, d3, H⟩ := lt_out H
  refine EW.ct (fun a w => ∃ a7 : Int, ∃ a5 : Int, ∃ a4 : Int, ∃ a3 : Int, ∃ a2 : Int, ∃ a1 : Bool, Sat 84 [(7, pt a0 0), (8, .bool (a1))] a ∧ St B w (Ass.box 28 a0 [ia a7, ia a5, ia a4, ia a3, ib a2, ib a10.f5, ib a10.f6] :: Ass.box 28 a6 (encS28 a10) :: os) (rs) ∧ a8 a7 a5 a4 a3 a2 a1 = some c6) (by kernel_rfl) ?_ (fun a w hI => ?_)
  ·refine EW.sq (by kernel_rfl) ?_
   refine EW.rg (by kernel_rfl) ?_
   refine EL.quick 2 [2, 7, 17] [(2, ia a12), (7, pt a0 0), (17, ig (Int.tmod a11 5))] (by kernel_rfl) ?_
   refine EL.done (by kernel_rfl) ?_
   refine EQ.code ?_
   refine EW.bl 0 (by kernel_rfl) ?_
   refine EW.sq (by kernel_rfl) ?_
   refine EW.rg (by kernel_rfl) ?_
   refine EL.quick 2 [2, 7, 17, 24] [(2, ia a12), (7, pt a0 0), (17, ig (Int.tmod a11 5)), (24, .bool (decide ((Int.tmod a11 5) = 0)))] (by kernel_rfl) ?_
   refine EL.done (by kernel_rfl) ?_
   refine EQ.code ?_
   refine EW.cdP ((Int.tmod a11 5) = 0) (by kernel_rfl) (by kernel_rfl) (fun c2 => ?_) (fun c2 => ?_)
   ·rw [if_pos c2] at H
    refine EW.rg (by kernel_rfl) ?_
    refine EL.quick 4 [2, 7, 26, 29] [(2, ia a12), (7, pt a0 0), (26, ia a12), (29, .bool (decide (a12 ≥ 0)))] (by kernel_rfl) ?_
    by_cases b4 : a12 ≥ 0
    ·rw [if_pos b4] at H
     refine EL.keep [2, 7, 26, 29] [(2, ia a12), (7, pt a0 0), (26, ia a12), (29, .bool (decide (a12 ≥ 0)))] (by kernel_rfl) ?_
     refine EL.as' [(2, ia a12), (7, pt a0 0), (26, ia a12), (29, .bool (true))] (by simp only [encS28, sv, dec_t b4, Bool.not_true, Bool.not_false]) ?_
     refine EL.quick 4 [7, 26, 32, 33] [(7, pt a0 0), (26, ia a12), (32, .bool (decide (a12 ≤ 65536))), (33, pt a0 0)] (by kernel_rfl) ?_
     refine EL.of (EO.storeBox (os' := Ass.box 28 a0 [ia a12, ia 3, ia 2, ia 1, ib 9, ib a10.f5, ib a10.f6] :: Ass.box 28 a6 (encS28 a10) :: os) hS 0 rfl 3 0 (ia a12) [ia a12, ia 3, ia 2, ia 1, ib 9, ib a10.f5, ib a10.f6] (by kernel_rfl) (by kernel_rfl) (by kernel_rfl) (by kernel_rfl) (by kernel_rfl) (by kernel_rfl) rfl rfl ?_)
     intro w hS
     refine EL.quick 1 [7, 8] [(7, pt a0 0), (8, .bool (decide (a12 ≤ 65536)))] (by kernel_rfl) ?_
     refine EL.done (by kernel_rfl) ?_
     refine EQ.pop ?_
     refine EQ.to ?_
     refine EQ.keep [7, 8] [(7, pt a0 0), (8, .bool (decide (a12 ≤ 65536)))] (by kernel_rfl) ?_
     exact fun a ha => ⟨a12, 3, 2, 1, 9, decide (a12 ≤ 65536), ha, (hS.re [1, 1] [] rfl (sub_self)), H⟩
    rw [if_neg b4] at H
    refine EL.keep [2, 7, 26, 29] [(2, ia a12), (7, pt a0 0), (26, ia a12), (29, .bool (decide (a12 ≥ 0)))] (by kernel_rfl) ?_
    refine EL.as' [(2, ia a12), (7, pt a0 0), (26, ia a12), (29, .bool (false))] (by simp only [encS28, sv, dec_f b4, Bool.not_true, Bool.not_false]) ?_
    refine EL.quick 4 [7, 26, 32, 33] [(7, pt a0 0), (26, ia a12), (32, .bool (false)), (33, pt a0 0)] (by kernel_rfl) ?_
    refine EL.of (EO.storeBox (os' := Ass.box 28 a0 [ia a12, ia 3, ia 2, ia 1, ib 9, ib a10.f5, ib a10.f6] :: Ass.box 28 a6 (encS28 a10) :: os) hS 0 rfl 3 0 (ia a12) [ia a12, ia 3, ia 2, ia 1, ib 9, ib a10.f5, ib a10.f6] (by kernel_rfl) (by kernel_rfl) (by kernel_rfl) (by kernel_rfl) (by kernel_rfl) (by kernel_rfl) rfl rfl ?_)
    intro w hS
    refine EL.quick 1 [7, 8] [(7, pt a0 0), (8, .bool (false))] (by kernel_rfl) ?_
    refine EL.done (by kernel_rfl) ?_
    refine EQ.pop ?_
    refine EQ.to ?_
    refine EQ.keep [7, 8] [(7, pt a0 0), (8, .bool (false))] (by kernel_rfl) ?_
    exact fun a ha => ⟨a12, 3, 2, 1, 9, false, ha, (hS.re [1, 1] [] rfl (sub_self)), H⟩
   rw [if_neg c2] at H
   refine EW.sq (by kernel_rfl) ?_
   refine EW.rg (by kernel_rfl) ?_
   refine EL.quick 2 [2, 7, 17, 34] [(2, ia a12), (7, pt a0 0), (17, ig (Int.tmod a11 5)), (34, .bool (decide ((Int.tmod a11 5) = 1)))] (by kernel_rfl) ?_
   refine EL.done (by kernel_rfl) ?_
   refine EQ.code ?_
   refine EW.cdP ((Int.tmod a11 5) = 1) (by kernel_rfl) (by kernel_rfl) (fun c3 => ?_) (fun c3 => ?_)
   ·rw [if_pos c3] at H
    refine EW.rg (by kernel_rfl) ?_
    refine EL.quick 4 [2, 7, 36, 39] [(2, ia a12), (7, pt a0 0), (36, ia a12), (39, .bool (decide (a12 ≥ 0)))] (by kernel_rfl) ?_
    by_cases b5 : a12 ≥ 0
    ·rw [if_pos b5] at H
     refine EL.keep [2, 7, 36, 39] [(2, ia a12), (7, pt a0 0), (36, ia a12), (39, .bool (decide (a12 ≥ 0)))] (by kernel_rfl) ?_
     refine EL.as' [(2, ia a12), (7, pt a0 0), (36, ia a12), (39, .bool (true))] (by simp only [encS28, sv, dec_t b5, Bool.not_true, Bool.not_false]) ?_
     refine EL.quick 4 [7, 36, 42, 43] [(7, pt a0 0), (36, ia a12), (42, .bool (decide (a12 < 16))), (43, pt a0 1)] (by kernel_rfl) ?_
     refine EL.of (EO.storeBox (os' := Ass.box 28 a0 [ia 5, ia a12, ia 2, ia 1, ib 9, ib a10.f5, ib a10.f6] :: Ass.box 28 a6 (encS28 a10) :: os) hS 0 rfl 3 1 (ia a12) [ia 5, ia a12, ia 2, ia 1, ib 9, ib a10.f5, ib a10.f6] (by kernel_rfl) (by kernel_rfl) (by kernel_rfl) (by kernel_rfl) (by kernel_rfl) (by kernel_rfl) rfl rfl ?_)
     intro w hS
     refine EL.quick 1 [7, 8] [(7, pt a0 0), (8, .bool (decide (a12 < 16)))] (by kernel_rfl) ?_
     refine EL.done (by kernel_rfl) ?_
     refine EQ.pop ?_
     refine EQ.to ?_
     refine EQ.keep [7, 8] [(7, pt a0 0), (8, .bool (decide (a12 < 16)))] (by kernel_rfl) ?_
     exact fun a ha => ⟨5, a12, 2, 1, 9, decide (a12 < 16), ha, (hS.re [1, 1] [] rfl (sub_self)), H⟩
    rw [if_neg b5] at H
    refine EL.keep [2, 7, 36, 39] [(2, ia a12), (7, pt a0 0), (36, ia a12), (39, .bool (decide (a12 ≥ 0)))] (by kernel_rfl) ?_
    refine EL.as' [(2, ia a12), (7, pt a0 0), (36, ia a12), (39, .bool (false))] (by simp only [encS28, sv, dec_f b5, Bool.not_true, Bool.not_false]) ?_
    refine EL.quick 4 [7, 36, 42, 43] [(7, pt a0 0), (36, ia a12), (42, .bool (false)), (43, pt a0 1)] (by kernel_rfl) ?_
    refine EL.of (EO.storeBox (os' := Ass.box 28 a0 [ia 5, ia a12, ia 2, ia 1, ib 9, ib a10.f5, ib a10.f6] :: Ass.box 28 a6 (encS28 a10) :: os) hS 0 rfl 3 1 (ia a12) [ia 5, ia a12, ia 2, ia 1, ib 9, ib a10.f5, ib a10.f6] (by kernel_rfl) (by kernel_rfl) (by kernel_rfl) (by kernel_rfl) (by kernel_rfl) (by kernel_rfl) rfl rfl ?_)
    intro w hS
    refine EL.quick 1 [7, 8] [(7, pt a0 0), (8, .bool (false))] (by kernel_rfl) ?_
    refine EL.done (by kernel_rfl) ?_
    refine EQ.pop ?_
    refine EQ.to ?_
    refine EQ.keep [7, 8] [(7, pt a0 0), (8, .bool (false))] (by kernel_rfl) ?_
    exact fun a ha => ⟨5, a12, 2, 1, 9, false, ha, (hS.re [1, 1] [] rfl (sub_self)), H⟩
   rw [if_neg c3] at H
   refine EW.sq (by kernel_rfl) ?_
   refine EW.rg (by kernel_rfl) ?_
   refine EL.quick 2 [2, 7, 17, 44] [(2, ia a12), (7, pt a0 0), (17, ig (Int.tmod a11 5)), (44, .bool (decide ((Int.tmod a11 5) = 2)))] (by kernel_rfl) ?_
   refine EL.done (by kernel_rfl) ?_
   refine EQ.code ?_
   refine EW.cdP ((Int.tmod a11 5) = 2) (by kernel_rfl) (by kernel_rfl) (fun c4 => ?_) (fun c4 => ?_)
   ·rw [if_pos c4] at H
    refine EW.rg (by kernel_rfl) ?_
    refine EL.quick 4 [2, 7, 46, 49] [(2, ia a12), (7, pt a0 0), (46, ia a12), (49, .bool (decide (a12 ≥ 1)))] (by kernel_rfl) ?_
    by_cases b6 : a12 ≥ 1
    ·rw [if_pos b6] at H
     refine EL.keep [2, 7, 46, 49] [(2, ia a12), (7, pt a0 0), (46, ia a12), (49, .bool (decide (a12 ≥ 1)))] (by kernel_rfl) ?_
     refine EL.as' [(2, ia a12), (7, pt a0 0), (46, ia a12), (49, .bool (true))] (by simp only [encS28, sv, dec_t b6, Bool.not_true, Bool.not_false]) ?_
     refine EL.quick 4 [7, 46, 52, 53] [(7, pt a0 0), (46, ia a12), (52, .bool (decide (a12 ≤ 11))), (53, pt a0 2)] (by kernel_rfl) ?_
     refine EL.of (EO.storeBox (os' := Ass.box 28 a0 [ia 5, ia 3, ia a12, ia 1, ib 9, ib a10.f5, ib a10.f6] :: Ass.box 28 a6 (encS28 a10) :: os) hS 0 rfl 3 2 (ia a12) [ia 5, ia 3, ia a12, ia 1, ib 9, ib a10.f5, ib a10.f6] (by kernel_rfl) (by kernel_rfl) (by kernel_rfl) (by kernel_rfl) (by kernel_rfl) (by kernel_rfl) rfl rfl ?_)
     intro w hS
     refine EL.quick 1 [7, 8] [(7, pt a0 0), (8, .bool (decide (a12 ≤ 11)))] (by kernel_rfl) ?_
     refine EL.done (by kernel_rfl) ?_
     refine EQ.pop ?_
     refine EQ.to ?_
     refine EQ.keep [7, 8] [(7, pt a0 0), (8, .bool (decide (a12 ≤ 11)))] (by kernel_rfl) ?_
     exact fun a ha => ⟨5, 3, a12, 1, 9, decide (a12 ≤ 11), ha, (hS.re [1, 1] [] rfl (sub_self)), H⟩
    rw [if_neg b6] at H
    refine EL.keep [2, 7, 46, 49] [(2, ia a12), (7, pt a0 0), (46, ia a12), (49, .bool (decide (a12 ≥ 1)))] (by kernel_rfl) ?_
    refine EL.as' [(2, ia a12), (7, pt a0 0), (46, ia a12), (49, .bool (false))] (by simp only [encS28, sv, dec_f b6, Bool.not_true, Bool.not_false]) ?_
    refine EL.quick 4 [7, 46, 52, 53] [(7, pt a0 0), (46, ia a12), (52, .bool (false)), (53, pt a0 2)] (by kernel_rfl) ?_
    refine EL.of (EO.storeBox (os' := Ass.box 28 a0 [ia 5, ia 3, ia a12, ia 1, ib 9, ib a10.f5, ib a10.f6] :: Ass.box 28 a6 (encS28 a10) :: os) hS 0 rfl 3 2 (ia a12) [ia 5, ia 3, ia a12, ia 1, ib 9, ib a10.f5, ib a10.f6] (by kernel_rfl) (by kernel_rfl) (by kernel_rfl) (by kernel_rfl) (by kernel_rfl) (by kernel_rfl) rfl rfl ?_)
    intro w hS
    refine EL.quick 1 [7, 8] [(7, pt a0 0), (8, .bool (false))] (by kernel_rfl) ?_
    refine EL.done (by kernel_rfl) ?_
    refine EQ.pop ?_
    refine EQ.to ?_
    refine EQ.keep [7, 8] [(7, pt a0 0), (8, .bool (false))] (by kernel_rfl) ?_
    exact fun a ha => ⟨5, 3, a12, 1, 9, false, ha, (hS.re [1, 1] [] rfl (sub_self)), H⟩
   rw [if_neg c4] at H
   refine EW.sq (by kernel_rfl) ?_
   refine EW.rg (by kernel_rfl) ?_
   refine EL.quick 2 [2, 7, 54] [(2, ia a12), (7, pt a0 0), (54, .bool (decide ((Int.tmod a11 5) = 3)))] (by kernel_rfl) ?_
   refine EL.done (by kernel_rfl) ?_
   refine EQ.code ?_
   refine EW.cdP ((Int.tmod a11 5) = 3) (by kernel_rfl) (by kernel_rfl) (fun c5 => ?_) (fun c5 => ?_)
   ·rw [if_pos c5] at H
    refine EW.rg (by kernel_rfl) ?_
    refine EL.quick 4 [2, 7, 56, 59] [(2, ia a12), (7, pt a0 0), (56, ia a12), (59, .bool (decide (a12 ≥ 0)))] (by kernel_rfl) ?_
    by_cases b7 : a12 ≥ 0
    ·rw [if_pos b7] at H
     refine EL.keep [2, 7, 56, 59] [(2, ia a12), (7, pt a0 0), (56, ia a12), (59, .bool (decide (a12 ≥ 0)))] (by kernel_rfl) ?_
     refine EL.as' [(2, ia a12), (7, pt a0 0), (56, ia a12), (59, .bool (true))] (by simp only [encS28, sv, dec_t b7, Bool.not_true, Bool.not_false]) ?_
     refine EL.quick 4 [7, 56, 62, 63] [(7, pt a0 0), (56, ia a12), (62, .bool (decide (a12 < 8))), (63, pt a0 3)] (by kernel_rfl) ?_
     refine EL.of (EO.storeBox (os' := Ass.box 28 a0 [ia 5, ia 3, ia 2, ia a12, ib 9, ib a10.f5, ib a10.f6] :: Ass.box 28 a6 (encS28 a10) :: os) hS 0 rfl 3 3 (ia a12) [ia 5, ia 3, ia 2, ia a12, ib 9, ib a10.f5, ib a10.f6] (by kernel_rfl) (by kernel_rfl) (by kernel_rfl) (by kernel_rfl) (by kernel_rfl) (by kernel_rfl) rfl rfl ?_)
     intro w hS
     refine EL.quick 1 [7, 8] [(7, pt a0 0), (8, .bool (decide (a12 < 8)))] (by kernel_rfl) ?_
     refine EL.done (by kernel_rfl) ?_
     refine EQ.pop ?_
     refine EQ.to ?_
     refine EQ.keep [7, 8] [(7, pt a0 0), (8, .bool (decide (a12 < 8)))] (by kernel_rfl) ?_
     exact fun a ha => ⟨5, 3, 2, a12, 9, decide (a12 < 8), ha, (hS.re [1, 1] [] rfl (sub_self)), H⟩
    rw [if_neg b7] at H
    refine EL.keep [2, 7, 56, 59] [(2, ia a12), (7, pt a0 0), (56, ia a12), (59, .bool (decide (a12 ≥ 0)))] (by kernel_rfl) ?_
    refine EL.as' [(2, ia a12), (7, pt a0 0), (56, ia a12), (59, .bool (false))] (by simp only [encS28, sv, dec_f b7, Bool.not_true, Bool.not_false]) ?_
    refine EL.quick 4 [7, 56, 62, 63] [(7, pt a0 0), (56, ia a12), (62, .bool (false)), (63, pt a0 3)] (by kernel_rfl) ?_
    refine EL.of (EO.storeBox (os' := Ass.box 28 a0 [ia 5, ia 3, ia 2, ia a12, ib 9, ib a10.f5, ib a10.f6] :: Ass.box 28 a6 (encS28 a10) :: os) hS 0 rfl 3 3 (ia a12) [ia 5, ia 3, ia 2, ia a12, ib 9, ib a10.f5, ib a10.f6] (by kernel_rfl) (by kernel_rfl) (by kernel_rfl) (by kernel_rfl) (by kernel_rfl) (by kernel_rfl) rfl rfl ?_)
    intro w hS
    refine EL.quick 1 [7, 8] [(7, pt a0 0), (8, .bool (false))] (by kernel_rfl) ?_
    refine EL.done (by kernel_rfl) ?_
    refine EQ.pop ?_
    refine EQ.to ?_
    refine EQ.keep [7, 8] [(7, pt a0 0), (8, .bool (false))] (by kernel_rfl) ?_
    exact fun a ha => ⟨5, 3, 2, a12, 9, false, ha, (hS.re [1, 1] [] rfl (sub_self)), H⟩
   rw [if_neg c5] at H
   refine EW.rg (by kernel_rfl) ?_
   refine EL.quick 6 [7, 19, 22, 23] [(7, pt a0 0), (19, ib (IntKind.i32.wrap a12)), (22, .bool (decide ((IntKind.i32.wrap a12) ≥ 0))), (23, pt a0 4)] (by kernel_rfl) ?_
   refine EL.of (EO.storeBox (os' := Ass.box 28 a0 [ia 5, ia 3, ia 2, ia 1, ib (IntKind.i32.wrap a12), ib a10.f5, ib a10.f6] :: Ass.box 28 a6 (encS28 a10) :: os) hS 0 rfl 21 4 (ib (IntKind.i32.wrap a12)) [ia 5, ia 3, ia 2, ia 1, ib (IntKind.i32.wrap a12), ib a10.f5, ib a10.f6] (by kernel_rfl) (by kernel_rfl) (by kernel_rfl) (by kernel_rfl) (by kernel_rfl) (by kernel_rfl) rfl rfl ?_)
   intro w hS
   refine EL.quick 1 [7, 8] [(7, pt a0 0), (8, .bool (decide ((IntKind.i32.wrap a12) ≥ 0)))] (by kernel_rfl) ?_
   refine EL.done (by kernel_rfl) ?_
   refine EQ.pop ?_
   refine EQ.to ?_
   refine EQ.keep [7, 8] [(7, pt a0 0), (8, .bool (decide ((IntKind.i32.wrap a12) ≥ 0)))] (by kernel_rfl) ?_
   exact fun a ha => ⟨5, 3, 2, 1, IntKind.i32.wrap a12, decide ((IntKind.i32.wrap a12) ≥ 0), ha, (hS.re [1, 1] [] rfl (sub_self)), H⟩
  obtain ⟨a7, a5, a4, a3, a2, a1, ha, hS, H⟩ := hI
  rw [d3] at H
  (try dsimp only at H)
  refine EW.at ?_ a ha
  clear ha a
  refine EW.sq (by kernel_rfl) ?_
  refine EW.rg (by kernel_rfl) ?_
  refine EL.of (EO.Y (YO.loadBox hS 0 rfl 28 0 7 (ag [ia a7, ia a5, ia a4, ia a3, ib a2, ib a10.f5, ib a10.f6]) 64 (by kernel_rfl) (by kernel_rfl) (by kernel_rfl) (by kernel_rfl)) ?_)
  obtain ⟨a9, d0, H⟩ := b1_out H
  have hq := trace_Right.calls d0 hS
  refine EL.of (EO.callD 23 [ag [ia a7, ia a5, ia a4, ia a3, ib a2, ib a10.f5, ib a10.f6]] _ 65 (by kernel_rfl) (by kernel_rfl) (by kernel_rfl) hq ?_)
  rintro v w ⟨rfl, hS⟩
  refine EL.quick 3 [7, 8, 68] [(7, pt a0 0), (8, .bool (a1)), (68, .bool ((a9 == a1)))] (by kernel_rfl) ?_
  by_cases b8 : (a9 == a1) = true
  ·rw [if_pos b8] at H
   refine EL.keep [7, 8, 68] [(7, pt a0 0), (8, .bool (a1)), (68, .bool ((a9 == a1)))] (by kernel_rfl) ?_
   refine EL.as' [(7, pt a0 0), (8, .bool (a1)), (68, .bool (true))] (by simp only [encS28, sv, b8, Bool.not_true, Bool.not_false]) ?_
   refine EL.of (EO.Y (YO.loadBox hS 0 rfl 28 0 7 (ag [ia a7, ia a5, ia a4, ia a3, ib a2, ib a10.f5, ib a10.f6]) 69 (by kernel_rfl) (by kernel_rfl) (by kernel_rfl) (by kernel_rfl)) ?_)
   obtain ⟨b0, d1, H⟩ := b1_out H
   have hq := trace_Text.calls d1 hS gB
   refine EL.of (EO.callD 25 [ag [ia a7, ia a5, ia a4, ia a3, ib a2, ib a10.f5, ib a10.f6]] _ 70 (by kernel_rfl) (by kernel_rfl) (by kernel_rfl) hq ?_)
   rintro v w ⟨rfl, hS⟩
   refine EL.quick 5 [7, 8, 75] [(7, pt a0 0), (8, .bool (a1)), (75, .bool (((!((b0.toList == (⟨#[]⟩ : ByteArray).toList))) == a1)))] (by kernel_rfl) ?_
   by_cases b9 : ((!((b0.toList == (⟨#[]⟩ : ByteArray).toList))) == a1) = true
   ·rw [if_pos b9] at H
    refine EL.keep [7, 8, 75] [(7, pt a0 0), (8, .bool (a1)), (75, .bool (((!((b0.toList == (⟨#[]⟩ : ByteArray).toList))) == a1)))] (by kernel_rfl) ?_
    refine EL.as' [(7, pt a0 0), (8, .bool (a1)), (75, .bool (true))] (by simp only [encS28, sv, b9, Bool.not_true, Bool.not_false]) ?_
    refine EL.of (EO.Y (YO.loadBox hS 0 rfl 28 0 7 (ag [ia a7, ia a5, ia a4, ia a3, ib a2, ib a10.f5, ib a10.f6]) 76 (by kernel_rfl) (by kernel_rfl) (by kernel_rfl) (by kernel_rfl)) ?_)
    obtain ⟨b2, c8, H⟩ := lt_out H
    refine EL.of (EO.lit hS kS28 28 22 1 #[(0, ag [ia a7, ia a5, ia a4, ia a3, ib a2, ib a10.f5, ib a10.f6])] [ia a7, ia a5, ia a4, ia a3, ib a2, ib a10.f5, ib a10.f6] b2 77 (by kernel_rfl) (by kernel_rfl) (by kernel_rfl) (fun _ => (by kernel_rfl)) (by rw [c8]; rfl) (by kernel_rfl) (fun w G hr => (by rw [c8]; exact ⟨[ia a7, ia a5, ia a4, ia a3, ib a2, ib a10.f5, ib a10.f6], [], rfl, ⟨[ia a7], [ia a5, ia a4, ia a3, ib a2, ib a10.f5, ib a10.f6], rfl, rfl, ⟨[ia a5], [ia a4, ia a3, ib a2, ib a10.f5, ib a10.f6], rfl, rfl, ⟨[ia a4], [ia a3, ib a2, ib a10.f5, ib a10.f6], rfl, rfl, ⟨[ia a3], [ib a2, ib a10.f5, ib a10.f6], rfl, rfl, ⟨[ib a2], [ib a10.f5, ib a10.f6], rfl, rfl, ⟨[ib a10.f5], [ib a10.f6], rfl, rfl, ⟨[ib a10.f6], [], rfl, rfl, rfl⟩⟩⟩⟩⟩⟩⟩, rfl⟩)) ?_)
    intro c7 w hS
    have hS := St.fr hS 0 rfl
    have hS : St B _ (Ass.box 28 a0 [ia a7, ia a5, ia a4, ia a3, ib a2, ib a10.f5, ib a10.f6] :: Ass.box 28 a6 (encS28 a10) :: os) (Ro.sl kS28 (some ⟨c7, 0, none⟩) 1 b2 :: rs) := hS.re [] [] rfl (sub_cons 0 rfl (sub_tail (sub_self)))
    obtain ⟨c0, d2, H⟩ := b1_out H
    have hq := trace_Put.calls d2 hS
    refine EL.of (EO.callD 15 [sv (some ⟨c7, 0, none⟩) 1 b2] _ 78 (by kernel_rfl) (by kernel_rfl) (by kernel_rfl) hq ?_)
    rintro v w ⟨d4, d5, rfl, hS⟩
    refine EL.quick 6 [6] [(6, .bool (((decide ((c0.length : Int) > 0)) == a1)))] (by kernel_rfl) ?_
    refine EL.done (by kernel_rfl) ?_
    refine EQ.code ?_
    refine EW.ret (by kernel_rfl) ?_
    obtain rfl := Option.some.inj H
    exact EQ.leave (.bool (((decide ((c0.length : Int) > 0)) == a1))) (by kernel_rfl) ⟨_, rfl, rfl, (hS.re [] [0, 0, 0] rfl (sub_tail (sub_self)))⟩
   rw [if_neg b9] at H
   refine EL.keep [7, 8, 75] [(7, pt a0 0), (8, .bool (a1)), (75, .bool (((!((b0.toList == (⟨#[]⟩ : ByteArray).toList))) == a1)))] (by kernel_rfl) ?_
   refine EL.as' [(7, pt a0 0), (8, .bool (a1)), (75, .bool (false))] (by simp only [encS28, sv, (Bool.eq_false_iff.2 b9), Bool.not_true, Bool.not_false]) ?_
   refine EL.quick 9 [6] [(6, .bool (false))] (by kernel_rfl) ?_
   refine EL.done (by kernel_rfl) ?_
   refine EQ.code ?_
   refine EW.ret (by kernel_rfl) ?_
   obtain rfl := Option.some.inj H
   exact EQ.leave (.bool (false)) (by kernel_rfl) ⟨_, rfl, rfl, (hS.re [] [0, 0] rfl (sub_self))⟩
  rw [if_neg b8] at H
  refine EL.keep [7, 8, 68] [(7, pt a0 0), (8, .bool (a1)), (68, .bool ((a9 == a1)))] (by kernel_rfl) ?_
  refine EL.as' [(7, pt a0 0), (8, .bool (a1)), (68, .bool (false))] (by simp only [encS28, sv, (Bool.eq_false_iff.2 b8), Bool.not_true, Bool.not_false]) ?_
  refine EL.quick 16 [6] [(6, .bool (false))] (by kernel_rfl) ?_
  refine EL.done (by kernel_rfl) ?_
  refine EQ.code ?_
  refine EW.ret (by kernel_rfl) ?_
  obtain rfl := Option.some.inj H
  exact EQ.leave (.bool (false)) (by kernel_rfl) ⟨_, rfl, rfl, (hS.re [] [0, 0] rfl (sub_self))⟩
 rw [if_neg c1] at H
 refine EW.sq (by kernel_rfl) ?_
 refine EW.rg (by kernel_rfl) ?_
 refine EL.quick 1 [6] [(6, .bool (false))] (by kernel_rfl) ?_
 refine EL.done (by kernel_rfl) ?_
 refine EQ.code ?_
 refine EW.ret (by kernel_rfl) ?_
 refine EQ.ret ?_
 obtain rfl := Option.some.inj H
 exact EQ.leave (.bool (false)) (by kernel_rfl) ⟨_, rfl, rfl, (hS.re [] [0] rfl (sub_self))⟩

def okS28 (s : S28) : Prop := ((Lit.int .i64 s.f0).wf = true) ∧ ((Lit.int .i64 s.f1).wf = true) ∧ ((Lit.int .i64 s.f2).wf = true) ∧ ((Lit.int .i64 s.f3).wf = true) ∧ ((Lit.int .i32 s.f4).wf = true) ∧ ((Lit.int .i32 s.f5).wf = true) ∧ ((Lit.int .i32 s.f6).wf = true) ∧ True
theorem oS28 : Opens Tryd.prog 28 kS28 okS28 := Opens.struct (fun s : S28 => (s.f0, s.f1, s.f2, s.f3, s.f4, s.f5, s.f6, ())) (fun a => ⟨a.1, a.2.1, a.2.2.1, a.2.2.2.1, a.2.2.2.2.1, a.2.2.2.2.2.1, a.2.2.2.2.2.2.1⟩) (fun _ => rfl) Tryd.underlying28 (OpensF.cons (Opens.int Tryd.underlying3) (OpensF.cons (Opens.int Tryd.underlying3) (OpensF.cons (Opens.int Tryd.underlying3) (OpensF.cons (Opens.int Tryd.underlying3) (OpensF.cons (Opens.int Tryd.underlying21) (OpensF.cons (Opens.int Tryd.underlying21) (OpensF.cons (Opens.int Tryd.underlying21) OpensF.nil rfl (by kernel_rfl)) rfl (by kernel_rfl)) rfl (by kernel_rfl)) rfl (by kernel_rfl)) rfl (by kernel_rfl)) rfl (by kernel_rfl)) rfl (by kernel_rfl)) (by kernel_rfl)
def confidantlaw23_TraceRights.Pure : Prop := ∀ (a10 : S28) (a11 : Int) (a12 : Int), (Lit.int .i64 a10.f0).wf = true → (Lit.int .i64 a10.f1).wf = true → (Lit.int .i64 a10.f2).wf = true → (Lit.int .i64 a10.f3).wf = true → (Lit.int .i32 a10.f4).wf = true → (Lit.int .i32 a10.f5).wf = true → (Lit.int .i32 a10.f6).wf = true → (Lit.int .u8 a11).wf = true → (Lit.int .i64 a12).wf = true → ∃ K, confidantlaw23_TraceRights.f K a10 a11 a12 = some true

end Go.Proofs.YtocdpimpkifdmaaDoor.G
