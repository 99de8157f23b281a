import Derived.Test.YtlcnkngpankkpaaProg
import Derived.Test.YtlcnkngpankkpaaFwShort
import Derived.Test.YtlcnkngpankkpaaFwOpen
import Derived.Test.YtlcnkngpankkpaaG0
import Derived.Test.YtlcnkngpankkpaaG1
namespace Go.Proofs.Ytlcnkngpankkpaa.G
open Go Go.Fw Go.RowKit Go.Proofs
set_option linter.unusedVariables false
set_option linter.unusedSimpArgs false

/-! ### confidant/confidantref5.Right: function 65 -/
def confidantref5_Right.f (K : Nat) (a2 : Int) (a0 : Int) : Option Bool := b1 (confidantref5_Arg.f K a2) fun (a3 : Int) => (if a3 = 0 then (b1 (confidantref5_Known.f K a2) fun (a4 : Bool) => (if a4 = true then (some (decide (a0 = 0))) else (some false))) else (if a3 = 1 then (some true) else (some (decide (a0 ≥ 0)))))
set_option maxRecDepth 100000 in
theorem confidantref5_Right.calls {K : Nat} {a2 : Int} {a0 : Int} {a8 : Bool} {B w : World} {os : List Ass} {rs : List Ro} (H : confidantref5_Right.f K a2 a0 = some a8) (hS : St B w (os) (rs)) :
  Calls Try.prog 65 [ag [ia a2, ib a0]].toArray w (fun en w' => ∃ v, en = .returned v ∧ v = .bool (a8) ∧ St B w' (os) (rs)) := by
 unfold confidantref5_Right.f at H
 refine calls_of_EW (args := [ag [ia a2, ib a0]]) (c := Cd65) 21 Try.func65 (by kernel_rfl) (by kernel_rfl) (by kernel_rfl) ?_
 refine EW.sq (by kernel_rfl) ?_
 refine EW.rg (by kernel_rfl) ?_
 refine EL.of (EO.box hS 32 (ag [ia a2, ib a0]) [ia a2, ib a0] 1 (by kernel_rfl) (by kernel_rfl) (by kernel_rfl) (by first | rfl | kernel_rfl) ?_)
 intro a1 w hS
 refine EL.quick 1 [1] [(1, pt a1 0)] (by kernel_rfl) ?_
 refine EL.done (by kernel_rfl) ?_
 refine EQ.code ?_
 refine EW.sq (by kernel_rfl) ?_
 refine EW.sq (by kernel_rfl) ?_
 refine EW.rg (by kernel_rfl) ?_
 refine EL.quick 1 [1, 3] [(1, pt a1 0), (3, pt a1 0)] (by kernel_rfl) ?_
 refine EL.of (EO.Y (YO.loadBox hS 0 rfl 3 0 1 (ia a2) 4 (by kernel_rfl) (by kernel_rfl) (by kernel_rfl) (by kernel_rfl)) ?_)
 obtain ⟨a3, a9, H⟩ := b1_out H
 have hq := confidantref5_Arg.calls a9 hS
 refine EL.of (EO.callD 24 [ia a2] _ 5 (by kernel_rfl) (by kernel_rfl) (by kernel_rfl) hq ?_)
 rintro v w ⟨rfl, hS⟩
 refine EL.done (by kernel_rfl) ?_
 refine EQ.code ?_
 refine EW.bl 0 (by kernel_rfl) ?_
 refine EW.sq (by kernel_rfl) ?_
 refine EW.rg (by kernel_rfl) ?_
 refine EL.quick 2 [1, 5, 6] [(1, pt a1 0), (5, ia a3), (6, .bool (decide (a3 = 0)))] (by kernel_rfl) ?_
 refine EL.done (by kernel_rfl) ?_
 refine EQ.code ?_
 refine EW.cdP (a3 = 0) (by kernel_rfl) (by kernel_rfl) (fun a6 => ?_) (fun a6 => ?_)
 ·rw [if_pos a6] at H
  refine EW.sq (by kernel_rfl) ?_
  refine EW.rg (by kernel_rfl) ?_
  refine EL.quick 1 [1, 8] [(1, pt a1 0), (8, pt a1 0)] (by kernel_rfl) ?_
  refine EL.of (EO.Y (YO.loadBox hS 0 rfl 3 0 1 (ia a2) 9 (by kernel_rfl) (by kernel_rfl) (by kernel_rfl) (by kernel_rfl)) ?_)
  obtain ⟨a4, b0, H⟩ := b1_out H
  have hq := confidantref5_Known.calls b0 hS
  refine EL.of (EO.callD 86 [ia a2] _ 10 (by kernel_rfl) (by kernel_rfl) (by kernel_rfl) hq ?_)
  rintro v w ⟨rfl, hS⟩
  refine EL.quick 1 [1, 11] [(1, pt a1 0), (11, .bool (a4))] (by kernel_rfl) ?_
  by_cases a5 : a4 = true
  ·rw [if_pos a5] at H
   refine EL.keep [1, 11] [(1, pt a1 0), (11, .bool (a4))] (by kernel_rfl) ?_
   refine EL.as' [(1, pt a1 0), (11, .bool (true))] (by simp only [a5, Bool.not_true, Bool.not_false]) ?_
   refine EL.quick 1 [11, 12] [(11, .bool (true)), (12, pt a1 1)] (by kernel_rfl) ?_
   refine EL.of (EO.Y (YO.loadBox hS 0 rfl 21 1 1 (ib a0) 13 (by kernel_rfl) (by kernel_rfl) (by kernel_rfl) (by kernel_rfl)) ?_)
   refine EL.quick 3 [2] [(2, .bool (decide (a0 = 0)))] (by kernel_rfl) ?_
   refine EL.done (by kernel_rfl) ?_
   refine EQ.code ?_
   refine EW.ret (by kernel_rfl) ?_
   refine EQ.ret ?_
   refine EQ.ret ?_
   obtain rfl := Option.some.inj H
   exact EQ.leave (.bool (decide (a0 = 0))) (by kernel_rfl) ⟨_, rfl, rfl, (hS.re [] [0] rfl (sub_self))⟩
  rw [if_neg a5] at H
  refine EL.keep [1, 11] [(1, pt a1 0), (11, .bool (a4))] (by kernel_rfl) ?_
  refine EL.as' [(1, pt a1 0), (11, .bool (false))] (by simp only [(Bool.eq_false_iff.2 a5), Bool.not_true, Bool.not_false]) ?_
  refine EL.quick 5 [2] [(2, .bool (false))] (by kernel_rfl) ?_
  refine EL.done (by kernel_rfl) ?_
  refine EQ.code ?_
  refine EW.ret (by kernel_rfl) ?_
  refine EQ.ret ?_
  refine EQ.ret ?_
  obtain rfl := Option.some.inj H
  exact EQ.leave (.bool (false)) (by kernel_rfl) ⟨_, rfl, rfl, (hS.re [] [0] rfl (sub_self))⟩
 rw [if_neg a6] at H
 refine EW.sq (by kernel_rfl) ?_
 refine EW.rg (by kernel_rfl) ?_
 refine EL.quick 2 [1, 16] [(1, pt a1 0), (16, .bool (decide (a3 = 1)))] (by kernel_rfl) ?_
 refine EL.done (by kernel_rfl) ?_
 refine EQ.code ?_
 refine EW.cdP (a3 = 1) (by kernel_rfl) (by kernel_rfl) (fun a7 => ?_) (fun a7 => ?_)
 ·rw [if_pos a7] at H
  refine EW.sq (by kernel_rfl) ?_
  refine EW.rg (by kernel_rfl) ?_
  refine EL.quick 1 [2] [(2, .bool (true))] (by kernel_rfl) ?_
  refine EL.done (by kernel_rfl) ?_
  refine EQ.code ?_
  refine EW.ret (by kernel_rfl) ?_
  refine EQ.ret ?_
  refine EQ.ret ?_
  obtain rfl := Option.some.inj H
  exact EQ.leave (.bool (true)) (by kernel_rfl) ⟨_, rfl, rfl, (hS.re [] [0] rfl (sub_self))⟩
 rw [if_neg a7] at H
 refine EW.skip (by kernel_rfl) ?_
 refine EQ.pop ?_
 refine EQ.code ?_
 refine EW.sq (by kernel_rfl) ?_
 refine EW.rg (by kernel_rfl) ?_
 refine EL.quick 1 [18] [(18, pt a1 1)] (by kernel_rfl) ?_
 refine EL.of (EO.Y (YO.loadBox hS 0 rfl 21 1 1 (ib a0) 19 (by kernel_rfl) (by kernel_rfl) (by kernel_rfl) (by kernel_rfl)) ?_)
 refine EL.quick 2 [2] [(2, .bool (decide (a0 ≥ 0)))] (by kernel_rfl) ?_
 refine EL.done (by kernel_rfl) ?_
 refine EQ.code ?_
 refine EW.ret (by kernel_rfl) ?_
 obtain rfl := Option.some.inj H
 exact EQ.leave (.bool (decide (a0 ≥ 0))) (by kernel_rfl) ⟨_, rfl, rfl, (hS.re [] [0] rfl (sub_self))⟩

/-! ### confidant/confidantref5.within: function 44 -/
def confidantref5_within.f (K : Nat) (a5 : Int) (a4 : Int) (a9 : Int) (a7 : Int) (a8 : Int) (a6 : Int) : Option Bool := lt ([0, 0, a9, 4, a8, a7, a6] : List Int) fun a0 => (b1 (confidantref5_Arg.f K a5) fun (a1 : Int) => (b1 (confidantref5_Right.f K a5 a4) fun (b0 : Bool) => (if b0 = true then (if a1 < 2 then (some true) else (if 0 ≤ a1 then (if a1 < (a0.length : Int) then (some (decide ((IntKind.i64.wrap a4) < (a0.getD a1.toNat 0)))) else none) else none)) else (some false))))
set_option maxRecDepth 100000 in
theorem confidantref5_within.calls {K : Nat} {a5 : Int} {a4 : Int} {a9 : Int} {a7 : Int} {a8 : Int} {a6 : Int} {b8 : Bool} {B w : World} {os : List Ass} {rs : List Ro} (H : confidantref5_within.f K a5 a4 a9 a7 a8 a6 = some b8) (hS : St B w (os) (rs)) :
  Calls Try.prog 44 [ag [ia a5, ib a4], ia a9, ia a7, ia a8, ia a6].toArray w (fun en w' => ∃ v, en = .returned v ∧ v = .bool (b8) ∧ St B w' (os) (rs)) := by
 unfold confidantref5_within.f at H
 refine calls_of_EW (args := [ag [ia a5, ib a4], ia a9, ia a7, ia a8, ia a6]) (c := Cd44) 37 Try.func44 (by kernel_rfl) (by kernel_rfl) (by kernel_rfl) ?_
 refine EW.sq (by kernel_rfl) ?_
 refine EW.rg (by kernel_rfl) ?_
 refine EL.of (EO.box hS 32 (ag [ia a5, ib a4]) [ia a5, ib a4] 5 (by kernel_rfl) (by kernel_rfl) (by kernel_rfl) (by first | rfl | kernel_rfl) ?_)
 intro a2 w hS
 refine EL.quick 1 [1, 2, 3, 4, 5] [(1, ia a9), (2, ia a7), (3, ia a8), (4, ia a6), (5, pt a2 0)] (by kernel_rfl) ?_
 refine EL.done (by kernel_rfl) ?_
 refine EQ.code ?_
 refine EW.sq (by kernel_rfl) ?_
 refine EW.rg (by kernel_rfl) ?_
 refine EL.quick 4 [5, 13, 14, 15, 16] [(5, pt a2 0), (13, ia a9), (14, ia a8), (15, ia a7), (16, ia a6)] (by kernel_rfl) ?_
 obtain ⟨a0, b7, H⟩ := lt_out H
 refine EL.of (EO.lit hS (Kd.int .i64) 3 39 7 #[(0, ia 0), (1, ia 0), (2, ia a9), (3, ia 4), (4, ia a8), (5, ia a7), (6, ia a6)] [ia 0, ia 0, ia a9, ia 4, ia a8, ia a7, ia a6] a0 17 (by kernel_rfl) (by kernel_rfl) (by kernel_rfl) (fun _ => (by kernel_rfl)) (by rw [b7]; rfl) (by kernel_rfl) (fun w G hr => (by rw [b7]; exact ⟨[ia 0], [ia 0, ia a9, ia 4, ia a8, ia a7, ia a6], rfl, rfl, ⟨[ia 0], [ia a9, ia 4, ia a8, ia a7, ia a6], rfl, rfl, ⟨[ia a9], [ia 4, ia a8, ia a7, ia a6], rfl, rfl, ⟨[ia 4], [ia a8, ia a7, ia a6], rfl, rfl, ⟨[ia a8], [ia a7, ia a6], rfl, rfl, ⟨[ia a7], [ia a6], rfl, rfl, ⟨[ia a6], [], rfl, rfl, rfl⟩⟩⟩⟩⟩⟩⟩)) ?_)
 intro a3 w hS
 refine EL.quick 1 [5, 11] [(5, pt a2 0), (11, sv (some ⟨a3, 0, none⟩) 7 a0)] (by kernel_rfl) ?_
 refine EL.done (by kernel_rfl) ?_
 refine EQ.code ?_
 refine EW.sq (by kernel_rfl) ?_
 refine EW.rg (by kernel_rfl) ?_
 refine EL.quick 1 [5, 11, 18] [(5, pt a2 0), (11, sv (some ⟨a3, 0, none⟩) 7 a0), (18, pt a2 0)] (by kernel_rfl) ?_
 refine EL.of (EO.Y (YO.loadBox hS 1 rfl 3 0 1 (ia a5) 19 (by kernel_rfl) (by kernel_rfl) (by kernel_rfl) (by kernel_rfl)) ?_)
 obtain ⟨a1, b9, H⟩ := b1_out H
 have hq := confidantref5_Arg.calls b9 hS
 refine EL.of (EO.callD 24 [ia a5] _ 20 (by kernel_rfl) (by kernel_rfl) (by kernel_rfl) hq ?_)
 rintro v w ⟨rfl, hS⟩
 refine EL.quick 1 [5, 11, 12] [(5, pt a2 0), (11, sv (some ⟨a3, 0, none⟩) 7 a0), (12, ia a1)] (by kernel_rfl) ?_
 refine EL.done (by kernel_rfl) ?_
 refine EQ.code ?_
 refine EW.sq (by kernel_rfl) ?_
 obtain ⟨b0, b4, H⟩ := b1_out H
 by_cases b2 : b0 = true
 ·rw [if_pos b2] at H
  by_cases b3 : a1 < 2
  ·rw [if_pos b3] at H
   have hS := hS.drew
   refine EW.dr (B := B) [Ass.own 3 (Kd.int .i64) (some ⟨a3, 0, none⟩) 7 a0, Ass.box 32 a2 [ia a5, ib a4]] [] (by kernel_rfl) (by kernel_rfl) ?_
   have hN : Region.noSelect Cd44.r.r.r.l.ops = true := (by kernel_rfl)
   have hF : freeAll Cd44.r.r.r.l.ops = true := (by kernel_rfl)
   have hC : Core B [Ass.own 3 (Kd.int .i64) (some ⟨a3, 0, none⟩) 7 a0, Ass.box 32 a2 [ia a5, ib a4]] [] _ := ⟨_, _, hS⟩
   refine ED.Y hN hF hC 0 16 (bm 17 1) (by kernel_rfl) (by kernel_rfl) rfl (fun _ _ _ hS => YO.loadBox hS 1 rfl 32 0 2 (ag [ia a5, ib a4]) 21 (by kernel_rfl) (by kernel_rfl) (by kernel_rfl) (by kernel_rfl)) ?_
   have hq := confidantref5_Right.calls b4 hS
   refine ED.one 1 15 (bm 17 3) (by kernel_rfl) (by kernel_rfl) (by kernel_rfl) (EO.callD 65 [ag [ia a5, ib a4]] _ 22 (by kernel_rfl) (by kernel_rfl) (by kernel_rfl) hq ?_)
   rintro v w ⟨rfl, hS⟩
   have hC := hC.again ⟨_, _, hS⟩
   refine ⟨hC, ?_⟩
   refine ED.quick hN hF hC [2] [5, 11, 12, 23] 14 [(5, pt a2 0), (11, sv (some ⟨a3, 0, none⟩) 7 a0), (12, ia a1), (23, .bool (b0))] (bm 17 7) (by kernel_rfl) (by kernel_rfl) ?_
   refine ED.keep [5, 11, 12, 23] [(5, pt a2 0), (11, sv (some ⟨a3, 0, none⟩) 7 a0), (12, ia a1), (23, .bool (b0))] (by kernel_rfl) ?_
   refine ED.as' [(5, pt a2 0), (11, sv (some ⟨a3, 0, none⟩) 7 a0), (12, ia a1), (23, .bool (true))] (by simp only [sv, b2, Bool.not_true, Bool.not_false]) ?_
   refine ED.quick hN hF hC [3, 4, 5] [5, 11, 12, 23, 26] 11 [(5, pt a2 0), (11, sv (some ⟨a3, 0, none⟩) 7 a0), (12, ia a1), (23, .bool (true)), (26, .bool (decide (a1 < 2)))] (bm 17 63) (by kernel_rfl) (by kernel_rfl) ?_
   refine ED.keep [5, 11, 12, 23, 26] [(5, pt a2 0), (11, sv (some ⟨a3, 0, none⟩) 7 a0), (12, ia a1), (23, .bool (true)), (26, .bool (decide (a1 < 2)))] (by kernel_rfl) ?_
   refine ED.as' [(5, pt a2 0), (11, sv (some ⟨a3, 0, none⟩) 7 a0), (12, ia a1), (23, .bool (true)), (26, .bool (true))] (by simp only [sv, dec_t b3, Bool.not_true, Bool.not_false]) ?_
   refine ED.quick hN hF hC [6, 7, 8, 9, 10, 11, 12, 13, 14, 15, 16] [10] 0 [(10, .bool (true))] (bm 17 131071) (by kernel_rfl) (by kernel_rfl) ?_
   refine ED.done (by kernel_rfl) ?_
   refine EQ.code ?_
   refine EW.ret (by kernel_rfl) ?_
   obtain rfl := Option.some.inj H
   exact EQ.leave (.bool (true)) (by kernel_rfl) ⟨_, rfl, rfl, (hS.re [] [0, 0] rfl (sub_self))⟩
  rw [if_neg b3] at H
  obtain ⟨b5, H⟩ := ite_in H
  obtain ⟨b6, H⟩ := ite_in H
  have hS := hS.drew
  refine EW.dr (B := B) [Ass.own 3 (Kd.int .i64) (some ⟨a3, 0, none⟩) 7 a0, Ass.box 32 a2 [ia a5, ib a4]] [] (by kernel_rfl) (by kernel_rfl) ?_
  have hN : Region.noSelect Cd44.r.r.r.l.ops = true := (by kernel_rfl)
  have hF : freeAll Cd44.r.r.r.l.ops = true := (by kernel_rfl)
  have hC : Core B [Ass.own 3 (Kd.int .i64) (some ⟨a3, 0, none⟩) 7 a0, Ass.box 32 a2 [ia a5, ib a4]] [] _ := ⟨_, _, hS⟩
  refine ED.Y hN hF hC 0 16 (bm 17 1) (by kernel_rfl) (by kernel_rfl) rfl (fun _ _ _ hS => YO.loadBox hS 1 rfl 32 0 2 (ag [ia a5, ib a4]) 21 (by kernel_rfl) (by kernel_rfl) (by kernel_rfl) (by kernel_rfl)) ?_
  have hq := confidantref5_Right.calls b4 hS
  refine ED.one 1 15 (bm 17 3) (by kernel_rfl) (by kernel_rfl) (by kernel_rfl) (EO.callD 65 [ag [ia a5, ib a4]] _ 22 (by kernel_rfl) (by kernel_rfl) (by kernel_rfl) hq ?_)
  rintro v w ⟨rfl, hS⟩
  have hC := hC.again ⟨_, _, hS⟩
  refine ⟨hC, ?_⟩
  refine ED.quick hN hF hC [2] [5, 11, 12, 23] 14 [(5, pt a2 0), (11, sv (some ⟨a3, 0, none⟩) 7 a0), (12, ia a1), (23, .bool (b0))] (bm 17 7) (by kernel_rfl) (by kernel_rfl) ?_
  refine ED.keep [5, 11, 12, 23] [(5, pt a2 0), (11, sv (some ⟨a3, 0, none⟩) 7 a0), (12, ia a1), (23, .bool (b0))] (by kernel_rfl) ?_
  refine ED.as' [(5, pt a2 0), (11, sv (some ⟨a3, 0, none⟩) 7 a0), (12, ia a1), (23, .bool (true))] (by simp only [sv, b2, Bool.not_true, Bool.not_false]) ?_
  refine ED.quick hN hF hC [3, 4, 5] [5, 11, 12, 23, 26] 11 [(5, pt a2 0), (11, sv (some ⟨a3, 0, none⟩) 7 a0), (12, ia a1), (23, .bool (true)), (26, .bool (decide (a1 < 2)))] (bm 17 63) (by kernel_rfl) (by kernel_rfl) ?_
  refine ED.keep [5, 11, 12, 23, 26] [(5, pt a2 0), (11, sv (some ⟨a3, 0, none⟩) 7 a0), (12, ia a1), (23, .bool (true)), (26, .bool (decide (a1 < 2)))] (by kernel_rfl) ?_
  refine ED.as' [(5, pt a2 0), (11, sv (some ⟨a3, 0, none⟩) 7 a0), (12, ia a1), (23, .bool (true)), (26, .bool (false))] (by simp only [sv, dec_f b3, Bool.not_true, Bool.not_false]) ?_
  refine ED.quick hN hF hC [6, 9, 10] [23, 26, 27, 30, 31] 8 [(23, .bool (true)), (26, .bool (false)), (27, pt a2 1), (30, sv (some ⟨a3, 0, none⟩) 7 a0), (31, ia a1)] (bm 17 1663) (by kernel_rfl) (by kernel_rfl) ?_
  refine ED.Y hN hF hC 7 7 (bm 17 1791) (by kernel_rfl) (by kernel_rfl) rfl (fun _ _ _ hS => YO.loadBox hS 1 rfl 21 1 1 (ib a4) 28 (by kernel_rfl) (by kernel_rfl) (by kernel_rfl) (by kernel_rfl)) ?_
  refine ED.quick hN hF hC [8] [23, 26, 29, 30, 31] 6 [(23, .bool (true)), (26, .bool (false)), (29, ia (IntKind.i64.wrap a4)), (30, sv (some ⟨a3, 0, none⟩) 7 a0), (31, ia a1)] (bm 17 2047) (by kernel_rfl) (by kernel_rfl) ?_
  refine ED.Y hN hF hC 11 5 (bm 17 4095) (by kernel_rfl) (by kernel_rfl) rfl (fun _ _ _ hS => YO.idx 39 1 ⟨a3, 0, none⟩ a0.length 7 .i64 a1 32 (by kernel_rfl) (by kernel_rfl) (by kernel_rfl) (by kernel_rfl) b5 b6) ?_
  refine ED.Y hN hF hC 12 4 (bm 17 8191) (by kernel_rfl) (by kernel_rfl) rfl (fun _ _ _ hS => YO.loadEl hS (Kd.int .i64) ⟨a3, 0, none⟩ 7 a0 (Rd.own 0 3 rfl) 0 (encI .i64) encI_of a1 b5 b6 3 1 0 1 rfl (ia (a0.getD a1.toNat 0)) 33 (by kernel_rfl) (by kernel_rfl) (by kernel_rfl) (by kernel_rfl)) ?_
  refine ED.quick hN hF hC [13, 14, 15, 16] [10] 0 [(10, .bool (decide ((IntKind.i64.wrap a4) < (a0.getD a1.toNat 0))))] (bm 17 131071) (by kernel_rfl) (by kernel_rfl) ?_
  refine ED.done (by kernel_rfl) ?_
  refine EQ.code ?_
  refine EW.ret (by kernel_rfl) ?_
  obtain rfl := Option.some.inj H
  exact EQ.leave (.bool (decide ((IntKind.i64.wrap a4) < (a0.getD a1.toNat 0)))) (by kernel_rfl) ⟨_, rfl, rfl, (hS.re [] [0, 0] rfl (sub_self))⟩
 rw [if_neg b2] at H
 have hS := hS.drew
 refine EW.dr (B := B) [Ass.own 3 (Kd.int .i64) (some ⟨a3, 0, none⟩) 7 a0, Ass.box 32 a2 [ia a5, ib a4]] [] (by kernel_rfl) (by kernel_rfl) ?_
 have hN : Region.noSelect Cd44.r.r.r.l.ops = true := (by kernel_rfl)
 have hF : freeAll Cd44.r.r.r.l.ops = true := (by kernel_rfl)
 have hC : Core B [Ass.own 3 (Kd.int .i64) (some ⟨a3, 0, none⟩) 7 a0, Ass.box 32 a2 [ia a5, ib a4]] [] _ := ⟨_, _, hS⟩
 refine ED.Y hN hF hC 0 16 (bm 17 1) (by kernel_rfl) (by kernel_rfl) rfl (fun _ _ _ hS => YO.loadBox hS 1 rfl 32 0 2 (ag [ia a5, ib a4]) 21 (by kernel_rfl) (by kernel_rfl) (by kernel_rfl) (by kernel_rfl)) ?_
 have hq := confidantref5_Right.calls b4 hS
 refine ED.one 1 15 (bm 17 3) (by kernel_rfl) (by kernel_rfl) (by kernel_rfl) (EO.callD 65 [ag [ia a5, ib a4]] _ 22 (by kernel_rfl) (by kernel_rfl) (by kernel_rfl) hq ?_)
 rintro v w ⟨rfl, hS⟩
 have hC := hC.again ⟨_, _, hS⟩
 refine ⟨hC, ?_⟩
 refine ED.quick hN hF hC [2] [5, 11, 12, 23] 14 [(5, pt a2 0), (11, sv (some ⟨a3, 0, none⟩) 7 a0), (12, ia a1), (23, .bool (b0))] (bm 17 7) (by kernel_rfl) (by kernel_rfl) ?_
 refine ED.keep [5, 11, 12, 23] [(5, pt a2 0), (11, sv (some ⟨a3, 0, none⟩) 7 a0), (12, ia a1), (23, .bool (b0))] (by kernel_rfl) ?_
 refine ED.as' [(5, pt a2 0), (11, sv (some ⟨a3, 0, none⟩) 7 a0), (12, ia a1), (23, .bool (false))] (by simp only [sv, (Bool.eq_false_iff.2 b2), Bool.not_true, Bool.not_false]) ?_
 refine ED.quick hN hF hC [3, 4, 5, 6, 7, 8, 9, 10, 11, 12, 13, 14, 15, 16] [10] 0 [(10, .bool (false))] (bm 17 131071) (by kernel_rfl) (by kernel_rfl) ?_
 refine ED.done (by kernel_rfl) ?_
 refine EQ.code ?_
 refine EW.ret (by kernel_rfl) ?_
 obtain rfl := Option.some.inj H
 exact EQ.leave (.bool (false)) (by kernel_rfl) ⟨_, rfl, rfl, (hS.re [] [0, 0] rfl (sub_self))⟩

/-! ### confidant/confidantref5.Pops: function 66 -/
def confidantref5_Pops.f (K : Nat) (a0 : Int) : Option Int := lt (fun (a3 : Bool) => (if a3 = true then (some 1) else (lt (fun (a4 : Bool) => (if a4 = true then (some 2) else (some 0))) fun a2 => (if a0 = 4 then (a2 true) else (if a0 = 5 then (a2 true) else (if a0 = 6 then (a2 true) else (if a0 = 7 then (a2 true) else (if a0 = 8 then (a2 true) else (if a0 = 9 then (a2 true) else (if a0 = 19 then (a2 true) else (a2 (decide (a0 = 20))))))))))))) fun a1 => (if a0 = 2 then (a1 true) else (if a0 = 3 then (a1 true) else (if a0 = 11 then (a1 true) else (if a0 = 13 then (a1 true) else (if a0 = 16 then (a1 true) else (if a0 = 17 then (a1 true) else (if a0 = 18 then (a1 true) else (if a0 = 21 then (a1 true) else (if a0 = 22 then (a1 true) else (if a0 = 23 then (a1 true) else (a1 (decide (a0 = 25)))))))))))))
set_option maxRecDepth 100000 in
theorem confidantref5_Pops.calls {K : Nat} {a0 : Int} {c2 : Int} {B w : World} {os : List Ass} {rs : List Ro} (H : confidantref5_Pops.f K a0 = some c2) (hS : St B w (os) (rs)) :
  Calls Try.prog 66 [ia a0].toArray w (fun en w' => ∃ v, en = .returned v ∧ v = ia c2 ∧ St B w' (os) (rs)) := by
 unfold confidantref5_Pops.f at H
 refine calls_of_EW (args := [ia a0]) (c := Cd66) 25 Try.func66 (by kernel_rfl) (by kernel_rfl) (by kernel_rfl) ?_
 refine EW.sq (by kernel_rfl) ?_
 refine EW.rg (by kernel_rfl) ?_
 refine EL.quick 1 [0] [(0, ia a0)] (by kernel_rfl) ?_
 refine EL.done (by kernel_rfl) ?_
 refine EQ.code ?_
 refine EW.sq (by kernel_rfl) ?_
 refine EW.sq (by kernel_rfl) ?_
 refine EW.rg (by kernel_rfl) ?_
 refine EL.quick 1 [3] [(3, ia a0)] (by kernel_rfl) ?_
 refine EL.done (by kernel_rfl) ?_
 refine EQ.code ?_
 refine EW.bl 0 (by kernel_rfl) ?_
 obtain ⟨a1, c5, H⟩ := lt_out H
 refine EW.ct (fun a w => ∃ a3 : Bool, Sat 25 [(3, ia a0), (4, .bool (a3))] a ∧ St B w (os) (rs) ∧ a1 a3 = some c2) (by kernel_rfl) ?_ (fun a w hI => ?_)
 ·refine EW.sq (by kernel_rfl) ?_
  refine EW.rg (by kernel_rfl) ?_
  refine EL.quick 2 [3, 4] [(3, ia a0), (4, .bool (decide (a0 = 2)))] (by kernel_rfl) ?_
  refine EL.done (by kernel_rfl) ?_
  refine EQ.code ?_
  refine EW.cdP (a0 = 2) (by kernel_rfl) (by kernel_rfl) (fun a5 => ?_) (fun a5 => ?_)
  ·rw [if_pos a5] at H
   refine EW.keep [3, 4] [(3, ia a0), (4, .bool (decide (a0 = 2)))] (by kernel_rfl) ?_
   refine EW.as' [(3, ia a0), (4, .bool (true))] (by simp only [dec_t a5, Bool.not_true, Bool.not_false]) ?_
   refine EW.skip (by kernel_rfl) ?_
   refine EQ.to ?_
   refine EQ.keep [3, 4] [(3, ia a0), (4, .bool (true))] (by kernel_rfl) ?_
   exact fun a ha => ⟨true, ha, (hS.re [] [] rfl (sub_self)), H⟩
  rw [if_neg a5] at H
  refine EW.sq (by kernel_rfl) ?_
  refine EW.rg (by kernel_rfl) ?_
  refine EL.quick 2 [3, 4] [(3, ia a0), (4, .bool (decide (a0 = 3)))] (by kernel_rfl) ?_
  refine EL.done (by kernel_rfl) ?_
  refine EQ.code ?_
  refine EW.cdP (a0 = 3) (by kernel_rfl) (by kernel_rfl) (fun a6 => ?_) (fun a6 => ?_)
  ·rw [if_pos a6] at H
   refine EW.keep [3, 4] [(3, ia a0), (4, .bool (decide (a0 = 3)))] (by kernel_rfl) ?_
   refine EW.as' [(3, ia a0), (4, .bool (true))] (by simp only [dec_t a6, Bool.not_true, Bool.not_false]) ?_
   refine EW.skip (by kernel_rfl) ?_
   refine EQ.to ?_
   refine EQ.keep [3, 4] [(3, ia a0), (4, .bool (true))] (by kernel_rfl) ?_
   exact fun a ha => ⟨true, ha, (hS.re [] [] rfl (sub_self)), H⟩
  rw [if_neg a6] at H
  refine EW.sq (by kernel_rfl) ?_
  refine EW.rg (by kernel_rfl) ?_
  refine EL.quick 2 [3, 4] [(3, ia a0), (4, .bool (decide (a0 = 11)))] (by kernel_rfl) ?_
  refine EL.done (by kernel_rfl) ?_
  refine EQ.code ?_
  refine EW.cdP (a0 = 11) (by kernel_rfl) (by kernel_rfl) (fun a7 => ?_) (fun a7 => ?_)
  ·rw [if_pos a7] at H
   refine EW.keep [3, 4] [(3, ia a0), (4, .bool (decide (a0 = 11)))] (by kernel_rfl) ?_
   refine EW.as' [(3, ia a0), (4, .bool (true))] (by simp only [dec_t a7, Bool.not_true, Bool.not_false]) ?_
   refine EW.skip (by kernel_rfl) ?_
   refine EQ.to ?_
   refine EQ.keep [3, 4] [(3, ia a0), (4, .bool (true))] (by kernel_rfl) ?_
   exact fun a ha => ⟨true, ha, (hS.re [] [] rfl (sub_self)), H⟩
  rw [if_neg a7] at H
  refine EW.sq (by kernel_rfl) ?_
  refine EW.rg (by kernel_rfl) ?_
  refine EL.quick 2 [3, 4] [(3, ia a0), (4, .bool (decide (a0 = 13)))] (by kernel_rfl) ?_
  refine EL.done (by kernel_rfl) ?_
  refine EQ.code ?_
  refine EW.cdP (a0 = 13) (by kernel_rfl) (by kernel_rfl) (fun a8 => ?_) (fun a8 => ?_)
  ·rw [if_pos a8] at H
   refine EW.keep [3, 4] [(3, ia a0), (4, .bool (decide (a0 = 13)))] (by kernel_rfl) ?_
   refine EW.as' [(3, ia a0), (4, .bool (true))] (by simp only [dec_t a8, Bool.not_true, Bool.not_false]) ?_
   refine EW.skip (by kernel_rfl) ?_
   refine EQ.to ?_
   refine EQ.keep [3, 4] [(3, ia a0), (4, .bool (true))] (by kernel_rfl) ?_
   exact fun a ha => ⟨true, ha, (hS.re [] [] rfl (sub_self)), H⟩
  rw [if_neg a8] at H
  refine EW.sq (by kernel_rfl) ?_
  refine EW.rg (by kernel_rfl) ?_
  refine EL.quick 2 [3, 4] [(3, ia a0), (4, .bool (decide (a0 = 16)))] (by kernel_rfl) ?_
  refine EL.done (by kernel_rfl) ?_
  refine EQ.code ?_
  refine EW.cdP (a0 = 16) (by kernel_rfl) (by kernel_rfl) (fun a9 => ?_) (fun a9 => ?_)
  ·rw [if_pos a9] at H
   refine EW.keep [3, 4] [(3, ia a0), (4, .bool (decide (a0 = 16)))] (by kernel_rfl) ?_
   refine EW.as' [(3, ia a0), (4, .bool (true))] (by simp only [dec_t a9, Bool.not_true, Bool.not_false]) ?_
   refine EW.skip (by kernel_rfl) ?_
   refine EQ.to ?_
   refine EQ.keep [3, 4] [(3, ia a0), (4, .bool (true))] (by kernel_rfl) ?_
   exact fun a ha => ⟨true, ha, (hS.re [] [] rfl (sub_self)), H⟩
  rw [if_neg a9] at H
  refine EW.sq (by kernel_rfl) ?_
  refine EW.rg (by kernel_rfl) ?_
  refine EL.quick 2 [3, 4] [(3, ia a0), (4, .bool (decide (a0 = 17)))] (by kernel_rfl) ?_
  refine EL.done (by kernel_rfl) ?_
  refine EQ.code ?_
  refine EW.cdP (a0 = 17) (by kernel_rfl) (by kernel_rfl) (fun b0 => ?_) (fun b0 => ?_)
  ·rw [if_pos b0] at H
   refine EW.keep [3, 4] [(3, ia a0), (4, .bool (decide (a0 = 17)))] (by kernel_rfl) ?_
   refine EW.as' [(3, ia a0), (4, .bool (true))] (by simp only [dec_t b0, Bool.not_true, Bool.not_false]) ?_
   refine EW.skip (by kernel_rfl) ?_
   refine EQ.to ?_
   refine EQ.keep [3, 4] [(3, ia a0), (4, .bool (true))] (by kernel_rfl) ?_
   exact fun a ha => ⟨true, ha, (hS.re [] [] rfl (sub_self)), H⟩
  rw [if_neg b0] at H
  refine EW.sq (by kernel_rfl) ?_
  refine EW.rg (by kernel_rfl) ?_
  refine EL.quick 2 [3, 4] [(3, ia a0), (4, .bool (decide (a0 = 18)))] (by kernel_rfl) ?_
  refine EL.done (by kernel_rfl) ?_
  refine EQ.code ?_
  refine EW.cdP (a0 = 18) (by kernel_rfl) (by kernel_rfl) (fun b1 => ?_) (fun b1 => ?_)
  ·rw [if_pos b1] at H
   refine EW.keep [3, 4] [(3, ia a0), (4, .bool (decide (a0 = 18)))] (by kernel_rfl) ?_
   refine EW.as' [(3, ia a0), (4, .bool (true))] (by simp only [dec_t b1, Bool.not_true, Bool.not_false]) ?_
   refine EW.skip (by kernel_rfl) ?_
   refine EQ.to ?_
   refine EQ.keep [3, 4] [(3, ia a0), (4, .bool (true))] (by kernel_rfl) ?_
   exact fun a ha => ⟨true, ha, (hS.re [] [] rfl (sub_self)), H⟩
  rw [if_neg b1] at H
  refine EW.sq (by kernel_rfl) ?_
  refine EW.rg (by kernel_rfl) ?_
  refine EL.quick 2 [3, 4] [(3, ia a0), (4, .bool (decide (a0 = 21)))] (by kernel_rfl) ?_
  refine EL.done (by kernel_rfl) ?_
  refine EQ.code ?_
  refine EW.cdP (a0 = 21) (by kernel_rfl) (by kernel_rfl) (fun b2 => ?_) (fun b2 => ?_)
  ·rw [if_pos b2] at H
   refine EW.keep [3, 4] [(3, ia a0), (4, .bool (decide (a0 = 21)))] (by kernel_rfl) ?_
   refine EW.as' [(3, ia a0), (4, .bool (true))] (by simp only [dec_t b2, Bool.not_true, Bool.not_false]) ?_
   refine EW.skip (by kernel_rfl) ?_
   refine EQ.to ?_
   refine EQ.keep [3, 4] [(3, ia a0), (4, .bool (true))] (by kernel_rfl) ?_
   exact fun a ha => ⟨true, ha, (hS.re [] [] rfl (sub_self)), H⟩
  rw [if_neg b2] at H
  refine EW.sq (by kernel_rfl) ?_
  refine EW.rg (by kernel_rfl) ?_
  refine EL.quick 2 [3, 4] [(3, ia a0), (4, .bool (decide (a0 = 22)))] (by kernel_rfl) ?_
  refine EL.done (by kernel_rfl) ?_
  refine EQ.code ?_
  refine EW.cdP (a0 = 22) (by kernel_rfl) (by kernel_rfl) (fun b3 => ?_) (fun b3 => ?_)
  ·rw [if_pos b3] at H
   refine EW.keep [3, 4] [(3, ia a0), (4, .bool (decide (a0 = 22)))] (by kernel_rfl) ?_
   refine EW.as' [(3, ia a0), (4, .bool (true))] (by simp only [dec_t b3, Bool.not_true, Bool.not_false]) ?_
   refine EW.skip (by kernel_rfl) ?_
   refine EQ.to ?_
   refine EQ.keep [3, 4] [(3, ia a0), (4, .bool (true))] (by kernel_rfl) ?_
   exact fun a ha => ⟨true, ha, (hS.re [] [] rfl (sub_self)), H⟩
  rw [if_neg b3] at H
  refine EW.sq (by kernel_rfl) ?_
  refine EW.rg (by kernel_rfl) ?_
  refine EL.quick 2 [3, 4] [(3, ia a0), (4, .bool (decide (a0 = 23)))] (by kernel_rfl) ?_
  refine EL.done (by kernel_rfl) ?_
  refine EQ.code ?_
  refine EW.cdP (a0 = 23) (by kernel_rfl) (by kernel_rfl) (fun b4 => ?_) (fun b4 => ?_)
  ·rw [if_pos b4] at H
   refine EW.keep [3, 4] [(3, ia a0), (4, .bool (decide (a0 = 23)))] (by kernel_rfl) ?_
   refine EW.as' [(3, ia a0), (4, .bool (true))] (by simp only [dec_t b4, Bool.not_true, Bool.not_false]) ?_
   refine EW.skip (by kernel_rfl) ?_
   refine EQ.to ?_
   refine EQ.keep [3, 4] [(3, ia a0), (4, .bool (true))] (by kernel_rfl) ?_
   exact fun a ha => ⟨true, ha, (hS.re [] [] rfl (sub_self)), H⟩
  rw [if_neg b4] at H
  refine EW.rg (by kernel_rfl) ?_
  refine EL.quick 2 [3, 4] [(3, ia a0), (4, .bool (decide (a0 = 25)))] (by kernel_rfl) ?_
  refine EL.done (by kernel_rfl) ?_
  refine EQ.to ?_
  refine EQ.keep [3, 4] [(3, ia a0), (4, .bool (decide (a0 = 25)))] (by kernel_rfl) ?_
  exact fun a ha => ⟨decide (a0 = 25), ha, (hS.re [] [] rfl (sub_self)), H⟩
 obtain ⟨a3, ha, hS, H⟩ := hI
 rw [c5] at H
 (try dsimp only at H)
 refine EW.at ?_ a ha
 clear ha a
 refine EW.cdP' (a3) (by kernel_rfl) (by kernel_rfl) (fun c3 => ?_) (fun c3 => ?_)
 ·rw [if_pos c3] at H
  refine EW.sq (by kernel_rfl) ?_
  refine EW.rg (by kernel_rfl) ?_
  refine EL.quick 1 [2] [(2, ia 1)] (by kernel_rfl) ?_
  refine EL.done (by kernel_rfl) ?_
  refine EQ.code ?_
  refine EW.ret (by kernel_rfl) ?_
  refine EQ.ret ?_
  refine EQ.ret ?_
  obtain rfl := Option.some.inj H
  exact EQ.leave (ia 1) (by kernel_rfl) ⟨_, rfl, rfl, (hS.re [] [] rfl (sub_self))⟩
 rw [if_neg c3] at H
 obtain ⟨a2, c6, H⟩ := lt_out H
 refine EW.ct (fun a w => ∃ a4 : Bool, Sat 25 [(16, .bool (a4))] a ∧ St B w (os) (rs) ∧ a2 a4 = some c2) (by kernel_rfl) ?_ (fun a w hI => ?_)
 ·refine EW.sq (by kernel_rfl) ?_
  refine EW.rg (by kernel_rfl) ?_
  refine EL.quick 2 [3, 16] [(3, ia a0), (16, .bool (decide (a0 = 4)))] (by kernel_rfl) ?_
  refine EL.done (by kernel_rfl) ?_
  refine EQ.code ?_
  refine EW.cdP (a0 = 4) (by kernel_rfl) (by kernel_rfl) (fun b5 => ?_) (fun b5 => ?_)
  ·rw [if_pos b5] at H
   refine EW.keep [16] [(16, .bool (decide (a0 = 4)))] (by kernel_rfl) ?_
   refine EW.as' [(16, .bool (true))] (by simp only [dec_t b5, Bool.not_true, Bool.not_false]) ?_
   refine EW.skip (by kernel_rfl) ?_
   refine EQ.to ?_
   refine EQ.keep [16] [(16, .bool (true))] (by kernel_rfl) ?_
   exact fun a ha => ⟨true, ha, (hS.re [] [] rfl (sub_self)), H⟩
  rw [if_neg b5] at H
  refine EW.sq (by kernel_rfl) ?_
  refine EW.rg (by kernel_rfl) ?_
  refine EL.quick 2 [3, 16] [(3, ia a0), (16, .bool (decide (a0 = 5)))] (by kernel_rfl) ?_
  refine EL.done (by kernel_rfl) ?_
  refine EQ.code ?_
  refine EW.cdP (a0 = 5) (by kernel_rfl) (by kernel_rfl) (fun b6 => ?_) (fun b6 => ?_)
  ·rw [if_pos b6] at H
   refine EW.keep [16] [(16, .bool (decide (a0 = 5)))] (by kernel_rfl) ?_
   refine EW.as' [(16, .bool (true))] (by simp only [dec_t b6, Bool.not_true, Bool.not_false]) ?_
   refine EW.skip (by kernel_rfl) ?_
   refine EQ.to ?_
   refine EQ.keep [16] [(16, .bool (true))] (by kernel_rfl) ?_
   exact fun a ha => ⟨true, ha, (hS.re [] [] rfl (sub_self)), H⟩
  rw [if_neg b6] at H
  refine EW.sq (by kernel_rfl) ?_
  refine EW.rg (by kernel_rfl) ?_
  refine EL.quick 2 [3, 16] [(3, ia a0), (16, .bool (decide (a0 = 6)))] (by kernel_rfl) ?_
  refine EL.done (by kernel_rfl) ?_
  refine EQ.code ?_
  refine EW.cdP (a0 = 6) (by kernel_rfl) (by kernel_rfl) (fun b7 => ?_) (fun b7 => ?_)
  ·rw [if_pos b7] at H
   refine EW.keep [16] [(16, .bool (decide (a0 = 6)))] (by kernel_rfl) ?_
   refine EW.as' [(16, .bool (true))] (by simp only [dec_t b7, Bool.not_true, Bool.not_false]) ?_
   refine EW.skip (by kernel_rfl) ?_
   refine EQ.to ?_
   refine EQ.keep [16] [(16, .bool (true))] (by kernel_rfl) ?_
   exact fun a ha => ⟨true, ha, (hS.re [] [] rfl (sub_self)), H⟩
  rw [if_neg b7] at H
  refine EW.sq (by kernel_rfl) ?_
  refine EW.rg (by kernel_rfl) ?_
  refine EL.quick 2 [3, 16] [(3, ia a0), (16, .bool (decide (a0 = 7)))] (by kernel_rfl) ?_
  refine EL.done (by kernel_rfl) ?_
  refine EQ.code ?_
  refine EW.cdP (a0 = 7) (by kernel_rfl) (by kernel_rfl) (fun b8 => ?_) (fun b8 => ?_)
  ·rw [if_pos b8] at H
   refine EW.keep [16] [(16, .bool (decide (a0 = 7)))] (by kernel_rfl) ?_
   refine EW.as' [(16, .bool (true))] (by simp only [dec_t b8, Bool.not_true, Bool.not_false]) ?_
   refine EW.skip (by kernel_rfl) ?_
   refine EQ.to ?_
   refine EQ.keep [16] [(16, .bool (true))] (by kernel_rfl) ?_
   exact fun a ha => ⟨true, ha, (hS.re [] [] rfl (sub_self)), H⟩
  rw [if_neg b8] at H
  refine EW.sq (by kernel_rfl) ?_
  refine EW.rg (by kernel_rfl) ?_
  refine EL.quick 2 [3, 16] [(3, ia a0), (16, .bool (decide (a0 = 8)))] (by kernel_rfl) ?_
  refine EL.done (by kernel_rfl) ?_
  refine EQ.code ?_
  refine EW.cdP (a0 = 8) (by kernel_rfl) (by kernel_rfl) (fun b9 => ?_) (fun b9 => ?_)
  ·rw [if_pos b9] at H
   refine EW.keep [16] [(16, .bool (decide (a0 = 8)))] (by kernel_rfl) ?_
   refine EW.as' [(16, .bool (true))] (by simp only [dec_t b9, Bool.not_true, Bool.not_false]) ?_
   refine EW.skip (by kernel_rfl) ?_
   refine EQ.to ?_
   refine EQ.keep [16] [(16, .bool (true))] (by kernel_rfl) ?_
   exact fun a ha => ⟨true, ha, (hS.re [] [] rfl (sub_self)), H⟩
  rw [if_neg b9] at H
  refine EW.sq (by kernel_rfl) ?_
  refine EW.rg (by kernel_rfl) ?_
  refine EL.quick 2 [3, 16] [(3, ia a0), (16, .bool (decide (a0 = 9)))] (by kernel_rfl) ?_
  refine EL.done (by kernel_rfl) ?_
  refine EQ.code ?_
  refine EW.cdP (a0 = 9) (by kernel_rfl) (by kernel_rfl) (fun c0 => ?_) (fun c0 => ?_)
  ·rw [if_pos c0] at H
   refine EW.keep [16] [(16, .bool (decide (a0 = 9)))] (by kernel_rfl) ?_
   refine EW.as' [(16, .bool (true))] (by simp only [dec_t c0, Bool.not_true, Bool.not_false]) ?_
   refine EW.skip (by kernel_rfl) ?_
   refine EQ.to ?_
   refine EQ.keep [16] [(16, .bool (true))] (by kernel_rfl) ?_
   exact fun a ha => ⟨true, ha, (hS.re [] [] rfl (sub_self)), H⟩
  rw [if_neg c0] at H
  refine EW.sq (by kernel_rfl) ?_
  refine EW.rg (by kernel_rfl) ?_
  refine EL.quick 2 [3, 16] [(3, ia a0), (16, .bool (decide (a0 = 19)))] (by kernel_rfl) ?_
  refine EL.done (by kernel_rfl) ?_
  refine EQ.code ?_
  refine EW.cdP (a0 = 19) (by kernel_rfl) (by kernel_rfl) (fun c1 => ?_) (fun c1 => ?_)
  ·rw [if_pos c1] at H
   refine EW.keep [16] [(16, .bool (decide (a0 = 19)))] (by kernel_rfl) ?_
   refine EW.as' [(16, .bool (true))] (by simp only [dec_t c1, Bool.not_true, Bool.not_false]) ?_
   refine EW.skip (by kernel_rfl) ?_
   refine EQ.to ?_
   refine EQ.keep [16] [(16, .bool (true))] (by kernel_rfl) ?_
   exact fun a ha => ⟨true, ha, (hS.re [] [] rfl (sub_self)), H⟩
  rw [if_neg c1] at H
  refine EW.rg (by kernel_rfl) ?_
  refine EL.quick 2 [16] [(16, .bool (decide (a0 = 20)))] (by kernel_rfl) ?_
  refine EL.done (by kernel_rfl) ?_
  refine EQ.to ?_
  refine EQ.keep [16] [(16, .bool (decide (a0 = 20)))] (by kernel_rfl) ?_
  exact fun a ha => ⟨decide (a0 = 20), ha, (hS.re [] [] rfl (sub_self)), H⟩
 obtain ⟨a4, ha, hS, H⟩ := hI
 rw [c6] at H
 (try dsimp only at H)
 refine EW.at ?_ a ha
 clear ha a
 refine EW.cdP' (a4) (by kernel_rfl) (by kernel_rfl) (fun c4 => ?_) (fun c4 => ?_)
 ·rw [if_pos c4] at H
  refine EW.sq (by kernel_rfl) ?_
  refine EW.rg (by kernel_rfl) ?_
  refine EL.quick 1 [2] [(2, ia 2)] (by kernel_rfl) ?_
  refine EL.done (by kernel_rfl) ?_
  refine EQ.code ?_
  refine EW.ret (by kernel_rfl) ?_
  refine EQ.ret ?_
  refine EQ.ret ?_
  obtain rfl := Option.some.inj H
  exact EQ.leave (ia 2) (by kernel_rfl) ⟨_, rfl, rfl, (hS.re [] [] rfl (sub_self))⟩
 rw [if_neg c4] at H
 refine EW.skip (by kernel_rfl) ?_
 refine EQ.pop ?_
 refine EQ.code ?_
 refine EW.sq (by kernel_rfl) ?_
 refine EW.rg (by kernel_rfl) ?_
 refine EL.quick 1 [2] [(2, ia 0)] (by kernel_rfl) ?_
 refine EL.done (by kernel_rfl) ?_
 refine EQ.code ?_
 refine EW.ret (by kernel_rfl) ?_
 obtain rfl := Option.some.inj H
 exact EQ.leave (ia 0) (by kernel_rfl) ⟨_, rfl, rfl, (hS.re [] [] rfl (sub_self))⟩

/-! ### confidant/confidantref5.Pushes: function 67 -/
def confidantref5_Pushes.f (K : Nat) (a0 : Int) : Option Int := lt (fun (a2 : Bool) => (if a2 = true then (some 1) else (lt (fun (a3 : Bool) => (if a3 = true then (some 2) else (some 0))) fun b9 => (if a0 = 3 then (b9 true) else (b9 (decide (a0 = 24))))))) fun a1 => (if a0 = 1 then (a1 true) else (if a0 = 4 then (a1 true) else (if a0 = 5 then (a1 true) else (if a0 = 6 then (a1 true) else (if a0 = 7 then (a1 true) else (if a0 = 8 then (a1 true) else (if a0 = 9 then (a1 true) else (if a0 = 12 then (a1 true) else (if a0 = 14 then (a1 true) else (if a0 = 16 then (a1 true) else (if a0 = 17 then (a1 true) else (if a0 = 18 then (a1 true) else (if a0 = 20 then (a1 true) else (if a0 = 21 then (a1 true) else (a1 (decide (a0 = 23)))))))))))))))))
set_option maxRecDepth 100000 in
theorem confidantref5_Pushes.calls {K : Nat} {a0 : Int} {c0 : Int} {B w : World} {os : List Ass} {rs : List Ro} (H : confidantref5_Pushes.f K a0 = some c0) (hS : St B w (os) (rs)) :
  Calls Try.prog 67 [ia a0].toArray w (fun en w' => ∃ v, en = .returned v ∧ v = ia c0 ∧ St B w' (os) (rs)) := by
 unfold confidantref5_Pushes.f at H
 refine calls_of_EW (args := [ia a0]) (c := Cd67) 23 Try.func67 (by kernel_rfl) (by kernel_rfl) (by kernel_rfl) ?_
 refine EW.sq (by kernel_rfl) ?_
 refine EW.rg (by kernel_rfl) ?_
 refine EL.quick 1 [0] [(0, ia a0)] (by kernel_rfl) ?_
 refine EL.done (by kernel_rfl) ?_
 refine EQ.code ?_
 refine EW.sq (by kernel_rfl) ?_
 refine EW.sq (by kernel_rfl) ?_
 refine EW.rg (by kernel_rfl) ?_
 refine EL.quick 1 [3] [(3, ia a0)] (by kernel_rfl) ?_
 refine EL.done (by kernel_rfl) ?_
 refine EQ.code ?_
 refine EW.bl 0 (by kernel_rfl) ?_
 obtain ⟨a1, c3, H⟩ := lt_out H
 refine EW.ct (fun a w => ∃ a2 : Bool, Sat 23 [(3, ia a0), (4, .bool (a2))] a ∧ St B w (os) (rs) ∧ a1 a2 = some c0) (by kernel_rfl) ?_ (fun a w hI => ?_)
 ·refine EW.sq (by kernel_rfl) ?_
  refine EW.rg (by kernel_rfl) ?_
  refine EL.quick 2 [3, 4] [(3, ia a0), (4, .bool (decide (a0 = 1)))] (by kernel_rfl) ?_
  refine EL.done (by kernel_rfl) ?_
  refine EQ.code ?_
  refine EW.cdP (a0 = 1) (by kernel_rfl) (by kernel_rfl) (fun a4 => ?_) (fun a4 => ?_)
  ·rw [if_pos a4] at H
   refine EW.keep [3, 4] [(3, ia a0), (4, .bool (decide (a0 = 1)))] (by kernel_rfl) ?_
   refine EW.as' [(3, ia a0), (4, .bool (true))] (by simp only [dec_t a4, Bool.not_true, Bool.not_false]) ?_
   refine EW.skip (by kernel_rfl) ?_
   refine EQ.to ?_
   refine EQ.keep [3, 4] [(3, ia a0), (4, .bool (true))] (by kernel_rfl) ?_
   exact fun a ha => ⟨true, ha, (hS.re [] [] rfl (sub_self)), H⟩
  rw [if_neg a4] at H
  refine EW.sq (by kernel_rfl) ?_
  refine EW.rg (by kernel_rfl) ?_
  refine EL.quick 2 [3, 4] [(3, ia a0), (4, .bool (decide (a0 = 4)))] (by kernel_rfl) ?_
  refine EL.done (by kernel_rfl) ?_
  refine EQ.code ?_
  refine EW.cdP (a0 = 4) (by kernel_rfl) (by kernel_rfl) (fun a5 => ?_) (fun a5 => ?_)
  ·rw [if_pos a5] at H
   refine EW.keep [3, 4] [(3, ia a0), (4, .bool (decide (a0 = 4)))] (by kernel_rfl) ?_
   refine EW.as' [(3, ia a0), (4, .bool (true))] (by simp only [dec_t a5, Bool.not_true, Bool.not_false]) ?_
   refine EW.skip (by kernel_rfl) ?_
   refine EQ.to ?_
   refine EQ.keep [3, 4] [(3, ia a0), (4, .bool (true))] (by kernel_rfl) ?_
   exact fun a ha => ⟨true, ha, (hS.re [] [] rfl (sub_self)), H⟩
  rw [if_neg a5] at H
  refine EW.sq (by kernel_rfl) ?_
  refine EW.rg (by kernel_rfl) ?_
  refine EL.quick 2 [3, 4] [(3, ia a0), (4, .bool (decide (a0 = 5)))] (by kernel_rfl) ?_
  refine EL.done (by kernel_rfl) ?_
  refine EQ.code ?_
  refine EW.cdP (a0 = 5) (by kernel_rfl) (by kernel_rfl) (fun a6 => ?_) (fun a6 => ?_)
  ·rw [if_pos a6] at H
   refine EW.keep [3, 4] [(3, ia a0), (4, .bool (decide (a0 = 5)))] (by kernel_rfl) ?_
   refine EW.as' [(3, ia a0), (4, .bool (true))] (by simp only [dec_t a6, Bool.not_true, Bool.not_false]) ?_
   refine EW.skip (by kernel_rfl) ?_
   refine EQ.to ?_
   refine EQ.keep [3, 4] [(3, ia a0), (4, .bool (true))] (by kernel_rfl) ?_
   exact fun a ha => ⟨true, ha, (hS.re [] [] rfl (sub_self)), H⟩
  rw [if_neg a6] at H
  refine EW.sq (by kernel_rfl) ?_
  refine EW.rg (by kernel_rfl) ?_
  refine EL.quick 2 [3, 4] [(3, ia a0), (4, .bool (decide (a0 = 6)))] (by kernel_rfl) ?_
  refine EL.done (by kernel_rfl) ?_
  refine EQ.code ?_
  refine EW.cdP (a0 = 6) (by kernel_rfl) (by kernel_rfl) (fun a7 => ?_) (fun a7 => ?_)
  ·rw [if_pos a7] at H
   refine EW.keep [3, 4] [(3, ia a0), (4, .bool (decide (a0 = 6)))] (by kernel_rfl) ?_
   refine EW.as' [(3, ia a0), (4, .bool (true))] (by simp only [dec_t a7, Bool.not_true, Bool.not_false]) ?_
   refine EW.skip (by kernel_rfl) ?_
   refine EQ.to ?_
   refine EQ.keep [3, 4] [(3, ia a0), (4, .bool (true))] (by kernel_rfl) ?_
   exact fun a ha => ⟨true, ha, (hS.re [] [] rfl (sub_self)), H⟩
  rw [if_neg a7] at H
  refine EW.sq (by kernel_rfl) ?_
  refine EW.rg (by kernel_rfl) ?_
  refine EL.quick 2 [3, 4] [(3, ia a0), (4, .bool (decide (a0 = 7)))] (by kernel_rfl) ?_
  refine EL.done (by kernel_rfl) ?_
  refine EQ.code ?_
  refine EW.cdP (a0 = 7) (by kernel_rfl) (by kernel_rfl) (fun a8 => ?_) (fun a8 => ?_)
  ·rw [if_pos a8] at H
   refine EW.keep [3, 4] [(3, ia a0), (4, .bool (decide (a0 = 7)))] (by kernel_rfl) ?_
   refine EW.as' [(3, ia a0), (4, .bool (true))] (by simp only [dec_t a8, Bool.not_true, Bool.not_false]) ?_
   refine EW.skip (by kernel_rfl) ?_
   refine EQ.to ?_
   refine EQ.keep [3, 4] [(3, ia a0), (4, .bool (true))] (by kernel_rfl) ?_
   exact fun a ha => ⟨true, ha, (hS.re [] [] rfl (sub_self)), H⟩
  rw [if_neg a8] at H
  refine EW.sq (by kernel_rfl) ?_
  refine EW.rg (by kernel_rfl) ?_
  refine EL.quick 2 [3, 4] [(3, ia a0), (4, .bool (decide (a0 = 8)))] (by kernel_rfl) ?_
  refine EL.done (by kernel_rfl) ?_
  refine EQ.code ?_
  refine EW.cdP (a0 = 8) (by kernel_rfl) (by kernel_rfl) (fun a9 => ?_) (fun a9 => ?_)
  ·rw [if_pos a9] at H
   refine EW.keep [3, 4] [(3, ia a0), (4, .bool (decide (a0 = 8)))] (by kernel_rfl) ?_
   refine EW.as' [(3, ia a0), (4, .bool (true))] (by simp only [dec_t a9, Bool.not_true, Bool.not_false]) ?_
   refine EW.skip (by kernel_rfl) ?_
   refine EQ.to ?_
   refine EQ.keep [3, 4] [(3, ia a0), (4, .bool (true))] (by kernel_rfl) ?_
   exact fun a ha => ⟨true, ha, (hS.re [] [] rfl (sub_self)), H⟩
  rw [if_neg a9] at H
  refine EW.sq (by kernel_rfl) ?_
  refine EW.rg (by kernel_rfl) ?_
  refine EL.quick 2 [3, 4] [(3, ia a0), (4, .bool (decide (a0 = 9)))] (by kernel_rfl) ?_
  refine EL.done (by kernel_rfl) ?_
  refine EQ.code ?_
  refine EW.cdP (a0 = 9) (by kernel_rfl) (by kernel_rfl) (fun b0 => ?_) (fun b0 => ?_)
  ·rw [if_pos b0] at H
   refine EW.keep [3, 4] [(3, ia a0), (4, .bool (decide (a0 = 9)))] (by kernel_rfl) ?_
   refine EW.as' [(3, ia a0), (4, .bool (true))] (by simp only [dec_t b0, Bool.not_true, Bool.not_false]) ?_
   refine EW.skip (by kernel_rfl) ?_
   refine EQ.to ?_
   refine EQ.keep [3, 4] [(3, ia a0), (4, .bool (true))] (by kernel_rfl) ?_
   exact fun a ha => ⟨true, ha, (hS.re [] [] rfl (sub_self)), H⟩
  rw [if_neg b0] at H
  refine EW.sq (by kernel_rfl) ?_
  refine EW.rg (by kernel_rfl) ?_
  refine EL.quick 2 [3, 4] [(3, ia a0), (4, .bool (decide (a0 = 12)))] (by kernel_rfl) ?_
  refine EL.done (by kernel_rfl) ?_
  refine EQ.code ?_
  refine EW.cdP (a0 = 12) (by kernel_rfl) (by kernel_rfl) (fun b1 => ?_) (fun b1 => ?_)
  ·rw [if_pos b1] at H
   refine EW.keep [3, 4] [(3, ia a0), (4, .bool (decide (a0 = 12)))] (by kernel_rfl) ?_
   refine EW.as' [(3, ia a0), (4, .bool (true))] (by simp only [dec_t b1, Bool.not_true, Bool.not_false]) ?_
   refine EW.skip (by kernel_rfl) ?_
   refine EQ.to ?_
   refine EQ.keep [3, 4] [(3, ia a0), (4, .bool (true))] (by kernel_rfl) ?_
   exact fun a ha => ⟨true, ha, (hS.re [] [] rfl (sub_self)), H⟩
  rw [if_neg b1] at H
  refine EW.sq (by kernel_rfl) ?_
  refine EW.rg (by kernel_rfl) ?_
  refine EL.quick 2 [3, 4] [(3, ia a0), (4, .bool (decide (a0 = 14)))] (by kernel_rfl) ?_
  refine EL.done (by kernel_rfl) ?_
  refine EQ.code ?_
  refine EW.cdP (a0 = 14) (by kernel_rfl) (by kernel_rfl) (fun b2 => ?_) (fun b2 => ?_)
  ·rw [if_pos b2] at H
   refine EW.keep [3, 4] [(3, ia a0), (4, .bool (decide (a0 = 14)))] (by kernel_rfl) ?_
   refine EW.as' [(3, ia a0), (4, .bool (true))] (by simp only [dec_t b2, Bool.not_true, Bool.not_false]) ?_
   refine EW.skip (by kernel_rfl) ?_
   refine EQ.to ?_
   refine EQ.keep [3, 4] [(3, ia a0), (4, .bool (true))] (by kernel_rfl) ?_
   exact fun a ha => ⟨true, ha, (hS.re [] [] rfl (sub_self)), H⟩
  rw [if_neg b2] at H
  refine EW.sq (by kernel_rfl) ?_
  refine EW.rg (by kernel_rfl) ?_
  refine EL.quick 2 [3, 4] [(3, ia a0), (4, .bool (decide (a0 = 16)))] (by kernel_rfl) ?_
  refine EL.done (by kernel_rfl) ?_
  refine EQ.code ?_
  refine EW.cdP (a0 = 16) (by kernel_rfl) (by kernel_rfl) (fun b3 => ?_) (fun b3 => ?_)
  ·rw [if_pos b3] at H
   refine EW.keep [3, 4] [(3, ia a0), (4, .bool (decide (a0 = 16)))] (by kernel_rfl) ?_
   refine EW.as' [(3, ia a0), (4, .bool (true))] (by simp only [dec_t b3, Bool.not_true, Bool.not_false]) ?_
   refine EW.skip (by kernel_rfl) ?_
   refine EQ.to ?_
   refine EQ.keep [3, 4] [(3, ia a0), (4, .bool (true))] (by kernel_rfl) ?_
   exact fun a ha => ⟨true, ha, (hS.re [] [] rfl (sub_self)), H⟩
  rw [if_neg b3] at H
  refine EW.sq (by kernel_rfl) ?_
  refine EW.rg (by kernel_rfl) ?_
  refine EL.quick 2 [3, 4] [(3, ia a0), (4, .bool (decide (a0 = 17)))] (by kernel_rfl) ?_
  refine EL.done (by kernel_rfl) ?_
  refine EQ.code ?_
  refine EW.cdP (a0 = 17) (by kernel_rfl) (by kernel_rfl) (fun b4 => ?_) (fun b4 => ?_)
  ·rw [if_pos b4] at H
   refine EW.keep [3, 4] [(3, ia a0), (4, .bool (decide (a0 = 17)))] (by kernel_rfl) ?_
   refine EW.as' [(3, ia a0), (4, .bool (true))] (by simp only [dec_t b4, Bool.not_true, Bool.not_false]) ?_
   refine EW.skip (by kernel_rfl) ?_
   refine EQ.to ?_
   refine EQ.keep [3, 4] [(3, ia a0), (4, .bool (true))] (by kernel_rfl) ?_
   exact fun a ha => ⟨true, ha, (hS.re [] [] rfl (sub_self)), H⟩
  rw [if_neg b4] at H
  refine EW.sq (by kernel_rfl) ?_
  refine EW.rg (by kernel_rfl) ?_
  refine EL.quick 2 [3, 4] [(3, ia a0), (4, .bool (decide (a0 = 18)))] (by kernel_rfl) ?_
  refine EL.done (by kernel_rfl) ?_
  refine EQ.code ?_
  refine EW.cdP (a0 = 18) (by kernel_rfl) (by kernel_rfl) (fun b5 => ?_) (fun b5 => ?_)
  ·rw [if_pos b5] at H
   refine EW.keep [3, 4] [(3, ia a0), (4, .bool (decide (a0 = 18)))] (by kernel_rfl) ?_
   refine EW.as' [(3, ia a0), (4, .bool (true))] (by simp only [dec_t b5, Bool.not_true, Bool.not_false]) ?_
   refine EW.skip (by kernel_rfl) ?_
   refine EQ.to ?_
   refine EQ.keep [3, 4] [(3, ia a0), (4, .bool (true))] (by kernel_rfl) ?_
   exact fun a ha => ⟨true, ha, (hS.re [] [] rfl (sub_self)), H⟩
  rw [if_neg b5] at H
  refine EW.sq (by kernel_rfl) ?_
  refine EW.rg (by kernel_rfl) ?_
  refine EL.quick 2 [3, 4] [(3, ia a0), (4, .bool (decide (a0 = 20)))] (by kernel_rfl) ?_
  refine EL.done (by kernel_rfl) ?_
  refine EQ.code ?_
  refine EW.cdP (a0 = 20) (by kernel_rfl) (by kernel_rfl) (fun b6 => ?_) (fun b6 => ?_)
  ·rw [if_pos b6] at H
   refine EW.keep [3, 4] [(3, ia a0), (4, .bool (decide (a0 = 20)))] (by kernel_rfl) ?_
   refine EW.as' [(3, ia a0), (4, .bool (true))] (by simp only [dec_t b6, Bool.not_true, Bool.not_false]) ?_
   refine EW.skip (by kernel_rfl) ?_
   refine EQ.to ?_
   refine EQ.keep [3, 4] [(3, ia a0), (4, .bool (true))] (by kernel_rfl) ?_
   exact fun a ha => ⟨true, ha, (hS.re [] [] rfl (sub_self)), H⟩
  rw [if_neg b6] at H
  refine EW.sq (by kernel_rfl) ?_
  refine EW.rg (by kernel_rfl) ?_
  refine EL.quick 2 [3, 4] [(3, ia a0), (4, .bool (decide (a0 = 21)))] (by kernel_rfl) ?_
  refine EL.done (by kernel_rfl) ?_
  refine EQ.code ?_
  refine EW.cdP (a0 = 21) (by kernel_rfl) (by kernel_rfl) (fun b7 => ?_) (fun b7 => ?_)
  ·rw [if_pos b7] at H
   refine EW.keep [3, 4] [(3, ia a0), (4, .bool (decide (a0 = 21)))] (by kernel_rfl) ?_
   refine EW.as' [(3, ia a0), (4, .bool (true))] (by simp only [dec_t b7, Bool.not_true, Bool.not_false]) ?_
   refine EW.skip (by kernel_rfl) ?_
   refine EQ.to ?_
   refine EQ.keep [3, 4] [(3, ia a0), (4, .bool (true))] (by kernel_rfl) ?_
   exact fun a ha => ⟨true, ha, (hS.re [] [] rfl (sub_self)), H⟩
  rw [if_neg b7] at H
  refine EW.rg (by kernel_rfl) ?_
  refine EL.quick 2 [3, 4] [(3, ia a0), (4, .bool (decide (a0 = 23)))] (by kernel_rfl) ?_
  refine EL.done (by kernel_rfl) ?_
  refine EQ.to ?_
  refine EQ.keep [3, 4] [(3, ia a0), (4, .bool (decide (a0 = 23)))] (by kernel_rfl) ?_
  exact fun a ha => ⟨decide (a0 = 23), ha, (hS.re [] [] rfl (sub_self)), H⟩
 obtain ⟨a2, ha, hS, H⟩ := hI
 rw [c3] at H
 (try dsimp only at H)
 refine EW.at ?_ a ha
 clear ha a
 refine EW.cdP' (a2) (by kernel_rfl) (by kernel_rfl) (fun c1 => ?_) (fun c1 => ?_)
 ·rw [if_pos c1] at H
  refine EW.sq (by kernel_rfl) ?_
  refine EW.rg (by kernel_rfl) ?_
  refine EL.quick 1 [2] [(2, ia 1)] (by kernel_rfl) ?_
  refine EL.done (by kernel_rfl) ?_
  refine EQ.code ?_
  refine EW.ret (by kernel_rfl) ?_
  refine EQ.ret ?_
  refine EQ.ret ?_
  obtain rfl := Option.some.inj H
  exact EQ.leave (ia 1) (by kernel_rfl) ⟨_, rfl, rfl, (hS.re [] [] rfl (sub_self))⟩
 rw [if_neg c1] at H
 obtain ⟨b9, c4, H⟩ := lt_out H
 refine EW.ct (fun a w => ∃ a3 : Bool, Sat 23 [(20, .bool (a3))] a ∧ St B w (os) (rs) ∧ b9 a3 = some c0) (by kernel_rfl) ?_ (fun a w hI => ?_)
 ·refine EW.sq (by kernel_rfl) ?_
  refine EW.rg (by kernel_rfl) ?_
  refine EL.quick 2 [3, 20] [(3, ia a0), (20, .bool (decide (a0 = 3)))] (by kernel_rfl) ?_
  refine EL.done (by kernel_rfl) ?_
  refine EQ.code ?_
  refine EW.cdP (a0 = 3) (by kernel_rfl) (by kernel_rfl) (fun b8 => ?_) (fun b8 => ?_)
  ·rw [if_pos b8] at H
   refine EW.keep [20] [(20, .bool (decide (a0 = 3)))] (by kernel_rfl) ?_
   refine EW.as' [(20, .bool (true))] (by simp only [dec_t b8, Bool.not_true, Bool.not_false]) ?_
   refine EW.skip (by kernel_rfl) ?_
   refine EQ.to ?_
   refine EQ.keep [20] [(20, .bool (true))] (by kernel_rfl) ?_
   exact fun a ha => ⟨true, ha, (hS.re [] [] rfl (sub_self)), H⟩
  rw [if_neg b8] at H
  refine EW.rg (by kernel_rfl) ?_
  refine EL.quick 2 [20] [(20, .bool (decide (a0 = 24)))] (by kernel_rfl) ?_
  refine EL.done (by kernel_rfl) ?_
  refine EQ.to ?_
  refine EQ.keep [20] [(20, .bool (decide (a0 = 24)))] (by kernel_rfl) ?_
  exact fun a ha => ⟨decide (a0 = 24), ha, (hS.re [] [] rfl (sub_self)), H⟩
 obtain ⟨a3, ha, hS, H⟩ := hI
 rw [c4] at H
 (try dsimp only at H)
 refine EW.at ?_ a ha
 clear ha a
 refine EW.cdP' (a3) (by kernel_rfl) (by kernel_rfl) (fun c2 => ?_) (fun c2 => ?_)
 ·rw [if_pos c2] at H
  refine EW.sq (by kernel_rfl) ?_
  refine EW.rg (by kernel_rfl) ?_
  refine EL.quick 1 [2] [(2, ia 2)] (by kernel_rfl) ?_
  refine EL.done (by kernel_rfl) ?_
  refine EQ.code ?_
  refine EW.ret (by kernel_rfl) ?_
  refine EQ.ret ?_
  refine EQ.ret ?_
  obtain rfl := Option.some.inj H
  exact EQ.leave (ia 2) (by kernel_rfl) ⟨_, rfl, rfl, (hS.re [] [] rfl (sub_self))⟩
 rw [if_neg c2] at H
 refine EW.skip (by kernel_rfl) ?_
 refine EQ.pop ?_
 refine EQ.code ?_
 refine EW.sq (by kernel_rfl) ?_
 refine EW.rg (by kernel_rfl) ?_
 refine EL.quick 1 [2] [(2, ia 0)] (by kernel_rfl) ?_
 refine EL.done (by kernel_rfl) ?_
 refine EQ.code ?_
 refine EW.ret (by kernel_rfl) ?_
 obtain rfl := Option.some.inj H
 exact EQ.leave (ia 0) (by kernel_rfl) ⟨_, rfl, rfl, (hS.re [] [] rfl (sub_self))⟩

/-! ### confidant/confidantref5.Ends: function 68 -/
def confidantref5_Ends.f (K : Nat) (a0 : Int) : Option Bool := if a0 = 25 then (some true) else (some (decide (a0 = 26)))
set_option maxRecDepth 100000 in
theorem confidantref5_Ends.calls {K : Nat} {a0 : Int} {a2 : Bool} {B w : World} {os : List Ass} {rs : List Ro} (H : confidantref5_Ends.f K a0 = some a2) (hS : St B w (os) (rs)) :
  Calls Try.prog 68 [ia a0].toArray w (fun en w' => ∃ v, en = .returned v ∧ v = .bool (a2) ∧ St B w' (os) (rs)) := by
 unfold confidantref5_Ends.f at H
 refine calls_of_EW (args := [ia a0]) (c := Cd68) 9 Try.func68 (by kernel_rfl) (by kernel_rfl) (by kernel_rfl) ?_
 refine EW.sq (by kernel_rfl) ?_
 refine EW.rg (by kernel_rfl) ?_
 refine EL.quick 1 [0] [(0, ia a0)] (by kernel_rfl) ?_
 refine EL.done (by kernel_rfl) ?_
 refine EQ.code ?_
 refine EW.sq (by kernel_rfl) ?_
 refine EW.rg (by kernel_rfl) ?_
 refine EL.quick 3 [0, 5] [(0, ia a0), (5, .bool (decide (a0 = 25)))] (by kernel_rfl) ?_
 by_cases a1 : a0 = 25
 ·rw [if_pos a1] at H
  refine EL.keep [0, 5] [(0, ia a0), (5, .bool (decide (a0 = 25)))] (by kernel_rfl) ?_
  refine EL.as' [(0, ia a0), (5, .bool (true))] (by simp only [dec_t a1, Bool.not_true, Bool.not_false]) ?_
  refine EL.quick 4 [2] [(2, .bool (true))] (by kernel_rfl) ?_
  refine EL.done (by kernel_rfl) ?_
  refine EQ.code ?_
  refine EW.ret (by kernel_rfl) ?_
  obtain rfl := Option.some.inj H
  exact EQ.leave (.bool (true)) (by kernel_rfl) ⟨_, rfl, rfl, (hS.re [] [] rfl (sub_self))⟩
 rw [if_neg a1] at H
 refine EL.keep [0, 5] [(0, ia a0), (5, .bool (decide (a0 = 25)))] (by kernel_rfl) ?_
 refine EL.as' [(0, ia a0), (5, .bool (false))] (by simp only [dec_f a1, Bool.not_true, Bool.not_false]) ?_
 refine EL.quick 4 [2] [(2, .bool (decide (a0 = 26)))] (by kernel_rfl) ?_
 refine EL.done (by kernel_rfl) ?_
 refine EQ.code ?_
 refine EW.ret (by kernel_rfl) ?_
 obtain rfl := Option.some.inj H
 exact EQ.leave (.bool (decide (a0 = 26))) (by kernel_rfl) ⟨_, rfl, rfl, (hS.re [] [] rfl (sub_self))⟩

/-! ### confidant/confidantref5.walk: function 45 -/
def confidantref5_walk.l2 (K : Nat) (a5 : List Int) (a2 : List S32) (a1 : List Int) (a0 : Int) (a8 : Int) (a9 : Int) (f3 : (List Int) → (List Bool) → (List Int) → Option (List Int × List Bool)) : Nat → (List Int) → (List Bool) → (List Int) → Int → Option (List Int × List Bool)
 | 0, _, _, _, _ => none
 | n + 1, c3, c0, b8, a7 => if a7 < (a5.length : Int) then (lt (fun (f9 : List Int) (g0 : List Bool) (g1 : List Int) => (confidantref5_walk.l2 K a5 a2 a1 a0 a8 a9 f3 n f9 g0 g1 (IntKind.i64.wrap (a7 + 1)))) fun n3 => (if 0 ≤ a7 then (if (a5.getD a7.toNat 0) ≥ (a2.length : Int) then (if (a1.getD a0.toNat 0) < (c0.length : Int) then (lt (c0.set (a1.getD a0.toNat 0).toNat true) fun j1 => (n3 c3 j1 b8)) else none) else (if 0 ≤ (a5.getD a7.toNat 0) then (if (a5.getD a7.toNat 0) < (b8.length : Int) then (if (b8.getD (a5.getD a7.toNat 0).toNat 0) < 0 then (lt (b8.set (a5.getD a7.toNat 0).toNat (IntKind.i64.wrap (a8 + a9))) fun e7 => (lt ([(a5.getD a7.toNat 0)] : List Int) fun n6 => (if (c3.length + n6.length) * 8 ≤ 140737488355328 then (lt (c3 ++ n6) fun j2 => (n3 j2 c0 e7)) else none))) else (if (b8.getD (a5.getD a7.toNat 0).toNat 0) = (IntKind.i64.wrap (a8 + a9)) then (n3 c3 c0 b8) else (if (a5.getD a7.toNat 0) < (c0.length : Int) then (lt (c0.set (a5.getD a7.toNat 0).toNat true) fun j3 => (n3 c3 j3 b8)) else none))) else none) else none)) else none)) else (f3 c3 c0 b8)
def confidantref5_walk.l1 (K : Nat) (a2 : List S32) (i5 : (List Int) → (List Bool) → (List Int) → Option (List Int × List Bool)) : Nat → (List Int) → (List Bool) → (List Int) → Int → Option (List Int × List Bool)
 | 0, _, _, _, _ => none
 | n + 1, a1, b2, a6, a0 => if a0 < (a1.length : Int) then (lt (fun (f6 : List Int) (f7 : List Bool) (f8 : List Int) => (confidantref5_walk.l1 K a2 i5 n f6 f7 f8 (IntKind.i64.wrap (a0 + 1)))) fun f3 => (if 0 ≤ a0 then (if 0 ≤ (a1.getD a0.toNat 0) then (if (a1.getD a0.toNat 0) < (a6.length : Int) then (if (a1.getD a0.toNat 0) < (a2.length : Int) then (b1 (confidantref5_Pops.f K ((a2.getD (a1.getD a0.toNat 0).toNat zS32).f0)) fun (e8 : Int) => (lt (IntKind.i64.wrap ((a6.getD (a1.getD a0.toNat 0).toNat 0) - e8)) fun a8 => (if (IntKind.i64.wrap ((a6.getD (a1.getD a0.toNat 0).toNat 0) - e8)) < 0 then (if (a1.getD a0.toNat 0) < (b2.length : Int) then (lt (b2.set (a1.getD a0.toNat 0).toNat true) fun i7 => (f3 a1 i7 a6)) else none) else (b1 (confidantref5_Pushes.f K ((a2.getD (a1.getD a0.toNat 0).toNat zS32).f0)) fun (a9 : Int) => (if (IntKind.i64.wrap (a8 + a9)) > 32 then (if (a1.getD a0.toNat 0) < (b2.length : Int) then (lt (b2.set (a1.getD a0.toNat 0).toNat true) fun i8 => (f3 a1 i8 a6)) else none) else (lt (fun (d6 : List Int) => (lt (fun (a5 : List Int) => (confidantref5_walk.l2 K a5 a2 a1 a0 a8 a9 f3 K a1 b2 a6 0)) fun o9 => (b1 (confidantref5_Arg.f K ((a2.getD (a1.getD a0.toNat 0).toNat zS32).f0)) fun (p0 : Int) => (if p0 = 2 then (lt ([IntKind.i64.wrap ((a2.getD (a1.getD a0.toNat 0).toNat zS32).f1)] : List Int) fun n5 => (if (d6.length + n5.length) * 8 ≤ 140737488355328 then (lt (d6 ++ n5) fun j0 => (o9 j0)) else none)) else (o9 d6))))) fun o7 => (lt (fun (n8 : Bool) => (if n8 = true then (lt ([IntKind.i64.wrap ((a1.getD a0.toNat 0) + 1)] : List Int) fun n4 => (if (([] : List Int).length + n4.length) * 8 ≤ 140737488355328 then (lt (([] : List Int) ++ n4) fun i9 => (o7 i9)) else none)) else (o7 ([] : List Int)))) fun o8 => (b1 (confidantref5_Ends.f K ((a2.getD (a1.getD a0.toNat 0).toNat zS32).f0)) fun (n7 : Bool) => (if n7 = true then (o8 false) else (o8 (!(decide (((a2.getD (a1.getD a0.toNat 0).toNat zS32).f0) = 10))))))))))))) else none) else none) else none) else none)) else (i5 a1 b2 a6)
def confidantref5_walk.l0 (K : Nat) (a2 : List S32) (i4 : (List Int) → Option (List Int × List Bool)) : Nat → (List Int) → Int → Option (List Int × List Bool)
 | 0, _, _ => none
 | n + 1, d9, d3 => if d3 < (a2.length : Int) then (if 0 ≤ d3 then (if d3 < (d9.length : Int) then (lt (d9.set d3.toNat (-1)) fun g5 => (confidantref5_walk.l0 K a2 i4 n g5 (IntKind.i64.wrap (d3 + 1)))) else none) else none) else (i4 d9)
def confidantref5_walk.f (K : Nat) (a2 : List S32) : Option (List Int × List Bool) := if 0 ≤ (a2.length : Int) then (if (8 : Int) * (a2.length : Int) ≤ 140737488355328 then (lt (List.replicate (a2.length : Int).toNat 0 : List Int) fun f4 => (if (1 : Int) * (a2.length : Int) ≤ 140737488355328 then (lt (List.replicate (a2.length : Int).toNat false : List Bool) fun c7 => (lt (fun (d8 : List Int) => (if (a2.length : Int) = 0 then (some (d8, c7)) else (if (0 : Int) < (d8.length : Int) then (lt (d8.set (0 : Int).toNat 0) fun f5 => (lt ([0] : List Int) fun i6 => (lt (fun (p1 : List Int) (g6 : List Bool) (g7 : List Int) => (some (g7, g6))) fun i5 => (confidantref5_walk.l1 K a2 i5 K i6 c7 f5 0)))) else none))) fun i4 => (confidantref5_walk.l0 K a2 i4 K f4 0))) else none)) else none) else none
set_option maxRecDepth 100000 in
theorem confidantref5_walk.calls {K : Nat} {a2 : List S32} {c4 : Option Addr} {a3 : Nat} {e2 : List Int} {e3 : List Bool} {B w : World} {os : List Ass} {rs : List Ro} (H : confidantref5_walk.f K a2 = some (e2, e3)) (hS : St B w (os) (Ro.sl kS32 c4 a3 a2 :: rs)) :
  Calls Try.prog 45 [sv c4 a3 a2].toArray w (fun en w' => ∃ v, en = .returned v ∧ ∃ t1 : Option Addr, ∃ t4 : Nat, ∃ t2 : Option Addr, ∃ t5 : Nat, v = .tuple #[sv t1 t4 e2, sv t2 t5 e3] ∧ St B w' (Ass.own 3 (Kd.int .i64) t1 t4 e2 :: Ass.own 4 Kd.bool t2 t5 e3 :: os) (Ro.sl kS32 c4 a3 a2 :: rs)) := by
 unfold confidantref5_walk.f at H
 refine calls_of_EW (args := [sv c4 a3 a2]) (c := Cd45) 156 Try.func45 (by kernel_rfl) (by kernel_rfl) (by kernel_rfl) ?_
 refine EW.sq (by kernel_rfl) ?_
 refine EW.rg (by kernel_rfl) ?_
 refine EL.quick 2 [0] [(0, sv c4 a3 a2)] (by kernel_rfl) ?_
 refine EL.done (by kernel_rfl) ?_
 refine EQ.code ?_
 refine EW.sq (by kernel_rfl) ?_
 refine EW.rg (by kernel_rfl) ?_
 refine EL.quick 2 [0, 15] [(0, sv c4 a3 a2), (15, ia (a2.length : Int))] (by kernel_rfl) ?_
 obtain ⟨u0, H⟩ := ite_in H
 obtain ⟨v2, H⟩ := ite_in H
 obtain ⟨f4, x8, H⟩ := lt_out H
 refine EL.of (EO.make hS (Kd.int .i64) 3 39 8 .i64 .i64 (a2.length : Int) 0 [ia 0] f4 x8 16 (by kernel_rfl) (by kernel_rfl) (by kernel_rfl) (by kernel_rfl) (by kernel_rfl) u0 v2 (fun w G => rfl) ?_)
 intro n0 w hS
 refine EL.quick 1 [0, 4] [(0, sv c4 a3 a2), (4, sv (some ⟨n0, 0, none⟩) ((a2.length : Int).toNat) f4)] (by kernel_rfl) ?_
 refine EL.done (by kernel_rfl) ?_
 refine EQ.code ?_
 refine EW.sq (by kernel_rfl) ?_
 refine EW.rg (by kernel_rfl) ?_
 refine EL.quick 2 [0, 4, 18] [(0, sv c4 a3 a2), (4, sv (some ⟨n0, 0, none⟩) ((a2.length : Int).toNat) f4), (18, ia (a2.length : Int))] (by kernel_rfl) ?_
 obtain ⟨v3, H⟩ := ite_in H
 obtain ⟨c7, x9, H⟩ := lt_out H
 refine EL.of (EO.make hS Kd.bool 4 84 1 .i64 .i64 (a2.length : Int) false [.bool (false)] c7 x9 19 (by kernel_rfl) (by kernel_rfl) (by kernel_rfl) (by kernel_rfl) (by kernel_rfl) u0 v3 (fun w G => rfl) ?_)
 intro d1 w hS
 refine EL.quick 1 [0, 4, 5] [(0, sv c4 a3 a2), (4, sv (some ⟨n0, 0, none⟩) ((a2.length : Int).toNat) f4), (5, sv (some ⟨d1, 0, none⟩) ((a2.length : Int).toNat) c7)] (by kernel_rfl) ?_
 refine EL.done (by kernel_rfl) ?_
 refine EQ.code ?_
 obtain ⟨i4, x1, H⟩ := lt_out H
 refine EW.ct (fun a w => ∃ d8 : List Int, ∃ e9 : Option Addr, ∃ d4 : Nat, Sat 156 [(0, sv c4 a3 a2), (4, sv e9 d4 d8), (5, sv (some ⟨d1, 0, none⟩) ((a2.length : Int).toNat) c7)] a ∧ St B w (Ass.own 4 Kd.bool (some ⟨d1, 0, none⟩) ((a2.length : Int).toNat) c7 :: Ass.own 3 (Kd.int .i64) e9 d4 d8 :: os) (Ro.sl kS32 c4 a3 a2 :: rs) ∧ i4 d8 = some (e2, e3)) (by kernel_rfl) ?_ (fun a w hI => ?_)
 ·refine EW.sq (by kernel_rfl) ?_
  refine EW.rg (by kernel_rfl) ?_
  refine EL.quick 1 [0, 4, 5, 6] [(0, sv c4 a3 a2), (4, sv (some ⟨n0, 0, none⟩) ((a2.length : Int).toNat) f4), (5, sv (some ⟨d1, 0, none⟩) ((a2.length : Int).toNat) c7), (6, ia 0)] (by kernel_rfl) ?_
  refine EL.done (by kernel_rfl) ?_
  refine EQ.code ?_
  refine EW.bl 0 (by kernel_rfl) ?_
  refine EW.lp (fun n a w => ∃ d9 : List Int, ∃ d3 : Int, ∃ g2 : Option Addr, ∃ d7 : Nat, Sat 156 [(0, sv c4 a3 a2), (4, sv g2 d7 d9), (5, sv (some ⟨d1, 0, none⟩) ((a2.length : Int).toNat) c7), (6, ia d3)] a ∧ St B w (Ass.own 4 Kd.bool (some ⟨d1, 0, none⟩) ((a2.length : Int).toNat) c7 :: Ass.own 3 (Kd.int .i64) g2 d7 d9 :: os) (Ro.sl kS32 c4 a3 a2 :: rs) ∧ confidantref5_walk.l0 K a2 i4 n d9 d3 = some (e2, e3)) K (by kernel_rfl) ?_ (fun n a w hI => ?_)
  ·refine EQ.keep [0, 4, 5, 6] [(0, sv c4 a3 a2), (4, sv (some ⟨n0, 0, none⟩) ((a2.length : Int).toNat) f4), (5, sv (some ⟨d1, 0, none⟩) ((a2.length : Int).toNat) c7), (6, ia 0)] (by kernel_rfl) ?_
   exact fun a ha => ⟨f4, 0, (some ⟨n0, 0, none⟩), (a2.length : Int).toNat, ha, (hS.re [1, 1] [] rfl (sub_cons 0 rfl (sub_tail (sub_self)))), H⟩
  obtain ⟨d9, d3, g2, d7, ha, hS, H⟩ := hI
  obtain _ | n := n
  ·simp [confidantref5_walk.l0] at H
  rw [confidantref5_walk.l0.eq_2] at H
  refine EW.at ?_ a ha
  clear ha a
  refine EW.sq (by kernel_rfl) ?_
  refine EW.sq (by kernel_rfl) ?_
  refine EW.rg (by kernel_rfl) ?_
  refine EL.quick 4 [0, 4, 5, 6, 23] [(0, sv c4 a3 a2), (4, sv g2 d7 d9), (5, sv (some ⟨d1, 0, none⟩) ((a2.length : Int).toNat) c7), (6, ia d3), (23, .bool (decide (d3 < (a2.length : Int))))] (by kernel_rfl) ?_
  refine EL.done (by kernel_rfl) ?_
  refine EQ.code ?_
  refine EW.cdP (d3 < (a2.length : Int)) (by kernel_rfl) (by kernel_rfl) (fun p2 => ?_) (fun p2 => ?_)
  ·rw [if_pos p2] at H
   refine EW.skip (by kernel_rfl) ?_
   refine EQ.code ?_
   refine EW.sq (by kernel_rfl) ?_
   refine EW.bl 1 (by kernel_rfl) ?_
   refine EW.rg (by kernel_rfl) ?_
   refine EL.quick 2 [0, 4, 5, 6, 26, 27] [(0, sv c4 a3 a2), (4, sv g2 d7 d9), (5, sv (some ⟨d1, 0, none⟩) ((a2.length : Int).toNat) c7), (6, ia d3), (26, sv g2 d7 d9), (27, ia d3)] (by kernel_rfl) ?_
   obtain ⟨p3, H⟩ := ite_in H
   obtain ⟨p4, H⟩ := ite_in H
   obtain ⟨g4, rfl⟩ := St.rd_some hS (Rd.own 1 3 rfl) p3 p4
   refine EL.of (EO.Y (YO.idx 39 1 g4 d9.length d7 .i64 d3 28 (by kernel_rfl) (by kernel_rfl) (by kernel_rfl) (by kernel_rfl) p3 p4) ?_)
   obtain ⟨g5, u1, H⟩ := lt_out H
   refine EL.of (EO.storeEl hS 1 (Kd.int .i64) 3 g4 d7 d9 rfl d3 p3 p4 0 3 1 0 rfl (ia (-1)) (-1) g5 u1 (Ass.own 4 Kd.bool (some ⟨d1, 0, none⟩) ((a2.length : Int).toNat) c7 :: Ass.own 3 (Kd.int .i64) (some g4) d7 g5 :: os) (by kernel_rfl) (by kernel_rfl) (by kernel_rfl) (by kernel_rfl) (by kernel_rfl) (by kernel_rfl) (fun w G vs hr h => set_whole h (by kernel_rfl) rfl) rfl ?_)
   intro w hS
   refine EL.keep [0, 4, 5, 6] [(0, sv c4 a3 a2), (4, sv (some g4) d7 d9), (5, sv (some ⟨d1, 0, none⟩) ((a2.length : Int).toNat) c7), (6, ia d3)] (by kernel_rfl) ?_
   refine EL.as' [(0, sv c4 a3 a2), (4, sv (some g4) d7 g5), (5, sv (some ⟨d1, 0, none⟩) ((a2.length : Int).toNat) c7), (6, ia d3)] (by simp only [encS32, sv, u1, List.length_set]) ?_
   refine EL.done (by kernel_rfl) ?_
   refine EQ.pop ?_
   refine EQ.code ?_
   refine EW.rg (by kernel_rfl) ?_
   refine EL.quick 3 [0, 4, 5, 6] [(0, sv c4 a3 a2), (4, sv (some g4) d7 g5), (5, sv (some ⟨d1, 0, none⟩) ((a2.length : Int).toNat) c7), (6, ia (IntKind.i64.wrap (d3 + 1)))] (by kernel_rfl) ?_
   refine EL.done (by kernel_rfl) ?_
   refine EQ.to ?_
   refine EQ.keep [0, 4, 5, 6] [(0, sv c4 a3 a2), (4, sv (some g4) d7 g5), (5, sv (some ⟨d1, 0, none⟩) ((a2.length : Int).toNat) c7), (6, ia (IntKind.i64.wrap (d3 + 1)))] (by kernel_rfl) ?_
   exact fun a ha => ⟨n, Nat.lt_succ_self n, g5, IntKind.i64.wrap (d3 + 1), (some g4), d7, ha, (hS.re [1, 1] [] rfl (sub_cons 0 rfl (sub_tail (sub_self)))), H⟩
  rw [if_neg p2] at H
  refine EW.exit (id := 0) (by kernel_rfl) ?_
  refine EQ.exitCode ?_
  refine EQ.exitTo ?_
  refine EQ.exitHere ?_
  refine EQ.to ?_
  refine EQ.keep [0, 4, 5] [(0, sv c4 a3 a2), (4, sv g2 d7 d9), (5, sv (some ⟨d1, 0, none⟩) ((a2.length : Int).toNat) c7)] (by kernel_rfl) ?_
  exact fun a ha => ⟨d9, g2, d7, ha, (hS.re [1, 1] [] rfl (sub_cons 0 rfl (sub_tail (sub_self)))), H⟩
 obtain ⟨d8, e9, d4, ha, hS, H⟩ := hI
 rw [x1] at H
 (try dsimp only at H)
 refine EW.at ?_ a ha
 clear ha a
 refine EW.sq (by kernel_rfl) ?_
 refine EW.sq (by kernel_rfl) ?_
 refine EW.rg (by kernel_rfl) ?_
 refine EL.quick 3 [0, 4, 5, 31] [(0, sv c4 a3 a2), (4, sv e9 d4 d8), (5, sv (some ⟨d1, 0, none⟩) ((a2.length : Int).toNat) c7), (31, .bool (decide ((a2.length : Int) = 0)))] (by kernel_rfl) ?_
 refine EL.done (by kernel_rfl) ?_
 refine EQ.code ?_
 refine EW.cdP ((a2.length : Int) = 0) (by kernel_rfl) (by kernel_rfl) (fun p5 => ?_) (fun p5 => ?_)
 ·rw [if_pos p5] at H
  refine EW.sq (by kernel_rfl) ?_
  refine EW.rg (by kernel_rfl) ?_
  refine EL.quick 4 [2, 3] [(2, sv e9 d4 d8), (3, sv (some ⟨d1, 0, none⟩) ((a2.length : Int).toNat) c7)] (by kernel_rfl) ?_
  refine EL.done (by kernel_rfl) ?_
  refine EQ.code ?_
  refine EW.ret (by kernel_rfl) ?_
  refine EQ.ret ?_
  simp only [encS32, sv, Option.some.injEq, Prod.mk.injEq] at H
  obtain ⟨rfl, rfl⟩ := H
  exact EQ.leave (.tuple #[sv e9 d4 d8, sv (some ⟨d1, 0, none⟩) ((a2.length : Int).toNat) c7]) (by kernel_rfl) ⟨_, rfl, e9, d4, (some ⟨d1, 0, none⟩), (a2.length : Int).toNat, rfl, (hS.re [0, 1] [] rfl (sub_self))⟩
 rw [if_neg p5] at H
 refine EW.skip (by kernel_rfl) ?_
 refine EQ.code ?_
 refine EW.sq (by kernel_rfl) ?_
 refine EW.rg (by kernel_rfl) ?_
 refine EL.quick 1 [0, 4, 5, 34] [(0, sv c4 a3 a2), (4, sv e9 d4 d8), (5, sv (some ⟨d1, 0, none⟩) ((a2.length : Int).toNat) c7), (34, sv e9 d4 d8)] (by kernel_rfl) ?_
 obtain ⟨p6, H⟩ := ite_in H
 obtain ⟨f2, rfl⟩ := St.rd_some hS (Rd.own 1 3 rfl) (by decide) p6
 refine EL.of (EO.Y (YO.idx 39 1 f2 d8.length d4 .i64 0 35 (by kernel_rfl) (by kernel_rfl) (by kernel_rfl) (by kernel_rfl) (by decide) p6) ?_)
 obtain ⟨f5, u2, H⟩ := lt_out H
 refine EL.of (EO.storeEl hS 1 (Kd.int .i64) 3 f2 d4 d8 rfl 0 (by decide) p6 0 3 1 0 rfl (ia 0) 0 f5 u2 (Ass.own 4 Kd.bool (some ⟨d1, 0, none⟩) ((a2.length : Int).toNat) c7 :: Ass.own 3 (Kd.int .i64) (some f2) d4 f5 :: os) (by kernel_rfl) (by kernel_rfl) (by kernel_rfl) (by kernel_rfl) (by kernel_rfl) (by kernel_rfl) (fun w G vs hr h => set_whole h (by kernel_rfl) rfl) rfl ?_)
 intro w hS
 refine EL.keep [0, 4, 5] [(0, sv c4 a3 a2), (4, sv (some f2) d4 d8), (5, sv (some ⟨d1, 0, none⟩) ((a2.length : Int).toNat) c7)] (by kernel_rfl) ?_
 refine EL.as' [(0, sv c4 a3 a2), (4, sv (some f2) d4 f5), (5, sv (some ⟨d1, 0, none⟩) ((a2.length : Int).toNat) c7)] (by simp only [encS32, sv, u2, List.length_set]) ?_
 refine EL.done (by kernel_rfl) ?_
 refine EQ.code ?_
 refine EW.sq (by kernel_rfl) ?_
 refine EW.rg (by kernel_rfl) ?_
 obtain ⟨i6, u3, H⟩ := lt_out H
 refine EL.of (EO.lit hS (Kd.int .i64) 3 39 1 #[(0, ia 0)] [ia 0] i6 36 (by kernel_rfl) (by kernel_rfl) (by kernel_rfl) (fun _ => (by kernel_rfl)) (by rw [u3]; rfl) (by kernel_rfl) (fun w G hr => (by rw [u3]; exact ⟨[ia 0], [], rfl, rfl, rfl⟩)) ?_)
 intro o5 w hS
 refine EL.quick 1 [0, 4, 5, 7] [(0, sv c4 a3 a2), (4, sv (some f2) d4 f5), (5, sv (some ⟨d1, 0, none⟩) ((a2.length : Int).toNat) c7), (7, sv (some ⟨o5, 0, none⟩) 1 i6)] (by kernel_rfl) ?_
 refine EL.done (by kernel_rfl) ?_
 refine EQ.code ?_
 obtain ⟨i5, x2, H⟩ := lt_out H
 refine EW.ct (fun a w => ∃ p1 : List Int, ∃ g6 : List Bool, ∃ g7 : List Int, ∃ t3 : Option Addr, ∃ t6 : Nat, ∃ j4 : Option Addr, ∃ m2 : Nat, ∃ j5 : Option Addr, ∃ m3 : Nat, Sat 156 [(4, sv j5 m3 g7), (5, sv j4 m2 g6)] a ∧ St B w (Ass.own 3 (Kd.int .i64) t3 t6 p1 :: Ass.own 4 Kd.bool j4 m2 g6 :: Ass.own 3 (Kd.int .i64) j5 m3 g7 :: os) (Ro.sl kS32 c4 a3 a2 :: rs) ∧ i5 p1 g6 g7 = some (e2, e3)) (by kernel_rfl) ?_ (fun a w hI => ?_)
 ·refine EW.sq (by kernel_rfl) ?_
  refine EW.rg (by kernel_rfl) ?_
  refine EL.quick 1 [0, 4, 5, 7, 8] [(0, sv c4 a3 a2), (4, sv (some f2) d4 f5), (5, sv (some ⟨d1, 0, none⟩) ((a2.length : Int).toNat) c7), (7, sv (some ⟨o5, 0, none⟩) 1 i6), (8, ia 0)] (by kernel_rfl) ?_
  refine EL.done (by kernel_rfl) ?_
  refine EQ.code ?_
  refine EW.bl 2 (by kernel_rfl) ?_
  refine EW.lp (fun n a w => ∃ a1 : List Int, ∃ b2 : List Bool, ∃ a6 : List Int, ∃ a0 : Int, ∃ g8 : Option Addr, ∃ b4 : Nat, ∃ b7 : Option Addr, ∃ b0 : Nat, ∃ g3 : Option Addr, ∃ b3 : Nat, Sat 156 [(0, sv c4 a3 a2), (4, sv g3 b3 a6), (5, sv b7 b0 b2), (7, sv g8 b4 a1), (8, ia a0)] a ∧ St B w (Ass.own 3 (Kd.int .i64) g8 b4 a1 :: Ass.own 4 Kd.bool b7 b0 b2 :: Ass.own 3 (Kd.int .i64) g3 b3 a6 :: os) (Ro.sl kS32 c4 a3 a2 :: rs) ∧ confidantref5_walk.l1 K a2 i5 n a1 b2 a6 a0 = some (e2, e3)) K (by kernel_rfl) ?_ (fun n a w hI => ?_)
  ·refine EQ.keep [0, 4, 5, 7, 8] [(0, sv c4 a3 a2), (4, sv (some f2) d4 f5), (5, sv (some ⟨d1, 0, none⟩) ((a2.length : Int).toNat) c7), (7, sv (some ⟨o5, 0, none⟩) 1 i6), (8, ia 0)] (by kernel_rfl) ?_
   exact fun a ha => ⟨i6, c7, f5, 0, (some ⟨o5, 0, none⟩), 1, (some ⟨d1, 0, none⟩), (a2.length : Int).toNat, (some f2), d4, ha, (hS.re [2, 2, 2] [] rfl (sub_cons 0 rfl (sub_tail (sub_self)))), H⟩
  obtain ⟨a1, b2, a6, a0, g8, b4, b7, b0, g3, b3, ha, hS, H⟩ := hI
  obtain _ | n := n
  ·simp [confidantref5_walk.l1] at H
  rw [confidantref5_walk.l1.eq_2] at H
  refine EW.at ?_ a ha
  clear ha a
  refine EW.sq (by kernel_rfl) ?_
  refine EW.sq (by kernel_rfl) ?_
  refine EW.rg (by kernel_rfl) ?_
  refine EL.quick 4 [0, 4, 5, 7, 8, 40] [(0, sv c4 a3 a2), (4, sv g3 b3 a6), (5, sv b7 b0 b2), (7, sv g8 b4 a1), (8, ia a0), (40, .bool (decide (a0 < (a1.length : Int))))] (by kernel_rfl) ?_
  refine EL.done (by kernel_rfl) ?_
  refine EQ.code ?_
  refine EW.cdP (a0 < (a1.length : Int)) (by kernel_rfl) (by kernel_rfl) (fun n1 => ?_) (fun n1 => ?_)
  ·rw [if_pos n1] at H
   refine EW.skip (by kernel_rfl) ?_
   refine EQ.code ?_
   obtain ⟨f3, x3, H⟩ := lt_out H
   refine EW.ct (fun a w => ∃ f6 : List Int, ∃ f7 : List Bool, ∃ f8 : List Int, ∃ j6 : Option Addr, ∃ m4 : Nat, ∃ j7 : Option Addr, ∃ m5 : Nat, ∃ j8 : Option Addr, ∃ m6 : Nat, Sat 156 [(0, sv c4 a3 a2), (4, sv j8 m6 f8), (5, sv j7 m5 f7), (7, sv j6 m4 f6), (8, ia a0)] a ∧ St B w (Ass.own 3 (Kd.int .i64) j6 m4 f6 :: Ass.own 4 Kd.bool j7 m5 f7 :: Ass.own 3 (Kd.int .i64) j8 m6 f8 :: os) (Ro.sl kS32 c4 a3 a2 :: rs) ∧ f3 f6 f7 f8 = some (e2, e3)) (by kernel_rfl) ?_ (fun a w hI => ?_)
   ·refine EW.bl 3 (by kernel_rfl) ?_
    refine EW.sq (by kernel_rfl) ?_
    refine EW.rg (by kernel_rfl) ?_
    refine EL.quick 2 [0, 4, 5, 7, 8, 43, 44] [(0, sv c4 a3 a2), (4, sv g3 b3 a6), (5, sv b7 b0 b2), (7, sv g8 b4 a1), (8, ia a0), (43, sv g8 b4 a1), (44, ia a0)] (by kernel_rfl) ?_
    obtain ⟨p7, H⟩ := ite_in H
    obtain ⟨b5, rfl⟩ := St.rd_some hS (Rd.own 0 3 rfl) p7 n1
    refine EL.of (EO.Y (YO.idx 39 1 b5 a1.length b4 .i64 a0 45 (by kernel_rfl) (by kernel_rfl) (by kernel_rfl) (by kernel_rfl) p7 n1) ?_)
    refine EL.of (EO.Y (YO.loadEl hS (Kd.int .i64) b5 b4 a1 (Rd.own 0 3 rfl) 0 (encI .i64) encI_of a0 p7 n1 3 1 0 1 rfl (ia (a1.getD a0.toNat 0)) 46 (by kernel_rfl) (by kernel_rfl) (by kernel_rfl) (by kernel_rfl)) ?_)
    refine EL.quick 1 [0, 4, 5, 7, 8, 9] [(0, sv c4 a3 a2), (4, sv g3 b3 a6), (5, sv b7 b0 b2), (7, sv (some b5) b4 a1), (8, ia a0), (9, ia (a1.getD a0.toNat 0))] (by kernel_rfl) ?_
    refine EL.done (by kernel_rfl) ?_
    refine EQ.code ?_
    refine EW.sq (by kernel_rfl) ?_
    obtain ⟨d2, H⟩ := ite_in H
    obtain ⟨p8, H⟩ := ite_in H
    obtain ⟨b6, rfl⟩ := St.rd_some hS (Rd.own 2 3 rfl) d2 p8
    obtain ⟨e1, H⟩ := ite_in H
    obtain ⟨a4, rfl⟩ := St.rd_some hS (Rd.ro 0 rfl) d2 e1
    obtain ⟨e8, v7, H⟩ := b1_out H
    have hS := hS.drew
    refine EW.dr (B := B) [Ass.own 3 (Kd.int .i64) (some b5) b4 a1, Ass.own 4 Kd.bool b7 b0 b2, Ass.own 3 (Kd.int .i64) (some b6) b3 a6] [Ro.sl kS32 (some a4) a3 a2] (by kernel_rfl) (by kernel_rfl) ?_
    have hN : Region.noSelect Cd45.r.r.r.r.r.r.r.l.r.l.l.r.l.l.r.l.ops = true := (by kernel_rfl)
    have hF : freeAll Cd45.r.r.r.r.r.r.r.l.r.l.l.r.l.l.r.l.ops = true := (by kernel_rfl)
    have hC : Core B [Ass.own 3 (Kd.int .i64) (some b5) b4 a1, Ass.own 4 Kd.bool b7 b0 b2, Ass.own 3 (Kd.int .i64) (some b6) b3 a6] [Ro.sl kS32 (some a4) a3 a2] _ := ⟨_, _, hS⟩
    refine ED.quick hN hF hC [0, 1, 4, 5] [0, 4, 5, 7, 8, 9, 47, 48, 51, 52] 8 [(0, sv (some a4) a3 a2), (4, sv (some b6) b3 a6), (5, sv b7 b0 b2), (7, sv (some b5) b4 a1), (8, ia a0), (9, ia (a1.getD a0.toNat 0)), (47, sv (some b6) b3 a6), (48, ia (a1.getD a0.toNat 0)), (51, sv (some a4) a3 a2), (52, ia (a1.getD a0.toNat 0))] (bm 12 51) (by kernel_rfl) (by kernel_rfl) ?_
    refine ED.Y hN hF hC 2 7 (bm 12 55) (by kernel_rfl) (by kernel_rfl) rfl (fun _ _ _ hS => YO.idx 39 1 b6 a6.length b3 .i64 (a1.getD a0.toNat 0) 49 (by kernel_rfl) (by kernel_rfl) (by kernel_rfl) (by kernel_rfl) d2 p8) ?_
    refine ED.Y hN hF hC 3 6 (bm 12 63) (by kernel_rfl) (by kernel_rfl) rfl (fun _ _ _ hS => YO.loadEl hS (Kd.int .i64) b6 b3 a6 (Rd.own 2 3 rfl) 0 (encI .i64) encI_of (a1.getD a0.toNat 0) d2 p8 3 1 0 1 rfl (ia (a6.getD (a1.getD a0.toNat 0).toNat 0)) 50 (by kernel_rfl) (by kernel_rfl) (by kernel_rfl) (by kernel_rfl)) ?_
    refine ED.Y hN hF hC 6 5 (bm 12 127) (by kernel_rfl) (by kernel_rfl) rfl (fun _ _ _ hS => YO.idx 29 2 a4 a2.length a3 .i64 (a1.getD a0.toNat 0) 53 (by kernel_rfl) (by kernel_rfl) (by kernel_rfl) (by kernel_rfl) d2 e1) ?_
    refine ED.quick hN hF hC [7] [0, 4, 5, 7, 8, 9, 50, 54] 4 [(0, sv (some a4) a3 a2), (4, sv (some b6) b3 a6), (5, sv b7 b0 b2), (7, sv (some b5) b4 a1), (8, ia a0), (9, ia (a1.getD a0.toNat 0)), (50, ia (a6.getD (a1.getD a0.toNat 0).toNat 0)), (54, .pointer (some ((a4.add ((a1.getD a0.toNat 0).toNat * 2)).add 0)))] (bm 12 255) (by kernel_rfl) (by kernel_rfl) ?_
    refine ED.Y hN hF hC 8 3 (bm 12 511) (by kernel_rfl) (by kernel_rfl) rfl (fun _ _ _ hS => YO.loadEl hS kS32 a4 a3 a2 (Rd.ro 0 rfl) zS32 encS32 encS32_of (a1.getD a0.toNat 0) d2 e1 3 2 0 1 rfl (ia ((a2.getD (a1.getD a0.toNat 0).toNat zS32).f0)) 55 (by kernel_rfl) (by kernel_rfl) (by kernel_rfl) (by kernel_rfl)) ?_
    have hq := confidantref5_Pops.calls v7 hS
    refine ED.one 9 2 (bm 12 1023) (by kernel_rfl) (by kernel_rfl) (by kernel_rfl) (EO.callD 66 [ia ((a2.getD (a1.getD a0.toNat 0).toNat zS32).f0)] _ 56 (by kernel_rfl) (by kernel_rfl) (by kernel_rfl) hq ?_)
    rintro v w ⟨rfl, hS⟩
    have hC := hC.again ⟨_, _, hS⟩
    refine ⟨hC, ?_⟩
    refine ED.quick hN hF hC [10, 11] [0, 4, 5, 7, 8, 9, 10] 0 [(0, sv (some a4) a3 a2), (4, sv (some b6) b3 a6), (5, sv b7 b0 b2), (7, sv (some b5) b4 a1), (8, ia a0), (9, ia (a1.getD a0.toNat 0)), (10, ia (IntKind.i64.wrap ((a6.getD (a1.getD a0.toNat 0).toNat 0) - e8)))] (bm 12 4095) (by kernel_rfl) (by kernel_rfl) ?_
    refine ED.done (by kernel_rfl) ?_
    refine EQ.code ?_
    refine EW.sq (by kernel_rfl) ?_
    refine EW.sq (by kernel_rfl) ?_
    refine EW.rg (by kernel_rfl) ?_
    refine EL.quick 2 [0, 4, 5, 7, 8, 9, 10, 59] [(0, sv (some a4) a3 a2), (4, sv (some b6) b3 a6), (5, sv b7 b0 b2), (7, sv (some b5) b4 a1), (8, ia a0), (9, ia (a1.getD a0.toNat 0)), (10, ia (IntKind.i64.wrap ((a6.getD (a1.getD a0.toNat 0).toNat 0) - e8))), (59, .bool (decide ((IntKind.i64.wrap ((a6.getD (a1.getD a0.toNat 0).toNat 0) - e8)) < 0)))] (by kernel_rfl) ?_
    obtain ⟨a8, y3, H⟩ := lt_out H
    refine EL.keep [0, 4, 5, 7, 8, 9, 10, 59] [(0, sv (some a4) a3 a2), (4, sv (some b6) b3 a6), (5, sv b7 b0 b2), (7, sv (some b5) b4 a1), (8, ia a0), (9, ia (a1.getD a0.toNat 0)), (10, ia (IntKind.i64.wrap ((a6.getD (a1.getD a0.toNat 0).toNat 0) - e8))), (59, .bool (decide ((IntKind.i64.wrap ((a6.getD (a1.getD a0.toNat 0).toNat 0) - e8)) < 0)))] (by kernel_rfl) ?_
    refine EL.as' [(0, sv (some a4) a3 a2), (4, sv (some b6) b3 a6), (5, sv b7 b0 b2), (7, sv (some b5) b4 a1), (8, ia a0), (9, ia (a1.getD a0.toNat 0)), (10, ia a8), (59, .bool (decide ((IntKind.i64.wrap ((a6.getD (a1.getD a0.toNat 0).toNat 0) - e8)) < 0)))] (by subst y3; rfl) ?_
    refine EL.done (by kernel_rfl) ?_
    refine EQ.code ?_
    refine EW.cdP ((IntKind.i64.wrap ((a6.getD (a1.getD a0.toNat 0).toNat 0) - e8)) < 0) (by kernel_rfl) (by kernel_rfl) (fun p9 => ?_) (fun p9 => ?_)
    ·rw [if_pos p9] at H
     refine EW.sq (by kernel_rfl) ?_
     refine EW.rg (by kernel_rfl) ?_
     refine EL.quick 2 [0, 4, 5, 7, 8, 60, 61] [(0, sv (some a4) a3 a2), (4, sv (some b6) b3 a6), (5, sv b7 b0 b2), (7, sv (some b5) b4 a1), (8, ia a0), (60, sv b7 b0 b2), (61, ia (a1.getD a0.toNat 0))] (by kernel_rfl) ?_
     obtain ⟨q0, H⟩ := ite_in H
     obtain ⟨g9, rfl⟩ := St.rd_some hS (Rd.own 1 4 rfl) d2 q0
     refine EL.of (EO.Y (YO.idx 84 1 g9 b2.length b0 .i64 (a1.getD a0.toNat 0) 62 (by kernel_rfl) (by kernel_rfl) (by kernel_rfl) (by kernel_rfl) d2 q0) ?_)
     obtain ⟨i7, u4, H⟩ := lt_out H
     refine EL.of (EO.storeEl hS 1 Kd.bool 4 g9 b0 b2 rfl (a1.getD a0.toNat 0) d2 q0 false 4 1 0 rfl (.bool (true)) true i7 u4 (Ass.own 3 (Kd.int .i64) (some b5) b4 a1 :: Ass.own 4 Kd.bool (some g9) b0 i7 :: Ass.own 3 (Kd.int .i64) (some b6) b3 a6 :: os) (by kernel_rfl) (by kernel_rfl) (by kernel_rfl) (by kernel_rfl) (by kernel_rfl) (by kernel_rfl) (fun w G vs hr h => set_whole h (by kernel_rfl) rfl) rfl ?_)
     intro w hS
     refine EL.keep [0, 4, 5, 7, 8] [(0, sv (some a4) a3 a2), (4, sv (some b6) b3 a6), (5, sv (some g9) b0 b2), (7, sv (some b5) b4 a1), (8, ia a0)] (by kernel_rfl) ?_
     refine EL.as' [(0, sv (some a4) a3 a2), (4, sv (some b6) b3 a6), (5, sv (some g9) b0 i7), (7, sv (some b5) b4 a1), (8, ia a0)] (by simp only [encS32, sv, u4, List.length_set]) ?_
     refine EL.done (by kernel_rfl) ?_
     refine EQ.code ?_
     refine EW.exit (id := 3) (by kernel_rfl) ?_
     refine EQ.exitCode ?_
     refine EQ.exitHere ?_
     refine EQ.to ?_
     refine EQ.keep [0, 4, 5, 7, 8] [(0, sv (some a4) a3 a2), (4, sv (some b6) b3 a6), (5, sv (some g9) b0 i7), (7, sv (some b5) b4 a1), (8, ia a0)] (by kernel_rfl) ?_
     exact fun a ha => ⟨a1, i7, a6, (some b5), b4, (some g9), b0, (some b6), b3, ha, (hS.re [2, 2, 2] [] rfl (sub_cons 0 rfl (sub_tail (sub_self)))), H⟩
    rw [if_neg p9] at H
    refine EW.skip (by kernel_rfl) ?_
    refine EQ.code ?_
    refine EW.sq (by kernel_rfl) ?_
    refine EW.rg (by kernel_rfl) ?_
    refine EL.quick 3 [0, 4, 5, 7, 8, 9, 63, 64, 65] [(0, sv (some a4) a3 a2), (4, sv (some b6) b3 a6), (5, sv b7 b0 b2), (7, sv (some b5) b4 a1), (8, ia a0), (9, ia (a1.getD a0.toNat 0)), (63, ia a8), (64, sv (some a4) a3 a2), (65, ia (a1.getD a0.toNat 0))] (by kernel_rfl) ?_
    refine EL.of (EO.Y (YO.idx 29 2 a4 a2.length a3 .i64 (a1.getD a0.toNat 0) 66 (by kernel_rfl) (by kernel_rfl) (by kernel_rfl) (by kernel_rfl) d2 e1) ?_)
    refine EL.quick 1 [0, 4, 5, 7, 8, 9, 63, 67] [(0, sv (some a4) a3 a2), (4, sv (some b6) b3 a6), (5, sv b7 b0 b2), (7, sv (some b5) b4 a1), (8, ia a0), (9, ia (a1.getD a0.toNat 0)), (63, ia a8), (67, .pointer (some ((a4.add ((a1.getD a0.toNat 0).toNat * 2)).add 0)))] (by kernel_rfl) ?_
    refine EL.of (EO.Y (YO.loadEl hS kS32 a4 a3 a2 (Rd.ro 0 rfl) zS32 encS32 encS32_of (a1.getD a0.toNat 0) d2 e1 3 2 0 1 rfl (ia ((a2.getD (a1.getD a0.toNat 0).toNat zS32).f0)) 68 (by kernel_rfl) (by kernel_rfl) (by kernel_rfl) (by kernel_rfl)) ?_)
    obtain ⟨a9, v8, H⟩ := b1_out H
    have hq := confidantref5_Pushes.calls v8 hS
    refine EL.of (EO.callD 67 [ia ((a2.getD (a1.getD a0.toNat 0).toNat zS32).f0)] _ 69 (by kernel_rfl) (by kernel_rfl) (by kernel_rfl) hq ?_)
    rintro v w ⟨rfl, hS⟩
    refine EL.quick 2 [0, 4, 5, 7, 8, 9, 10] [(0, sv (some a4) a3 a2), (4, sv (some b6) b3 a6), (5, sv b7 b0 b2), (7, sv (some b5) b4 a1), (8, ia a0), (9, ia (a1.getD a0.toNat 0)), (10, ia (IntKind.i64.wrap (a8 + a9)))] (by kernel_rfl) ?_
    refine EL.done (by kernel_rfl) ?_
    refine EQ.code ?_
    refine EW.sq (by kernel_rfl) ?_
    refine EW.sq (by kernel_rfl) ?_
    refine EW.rg (by kernel_rfl) ?_
    refine EL.quick 2 [0, 4, 5, 7, 8, 9, 10, 72] [(0, sv (some a4) a3 a2), (4, sv (some b6) b3 a6), (5, sv b7 b0 b2), (7, sv (some b5) b4 a1), (8, ia a0), (9, ia (a1.getD a0.toNat 0)), (10, ia (IntKind.i64.wrap (a8 + a9))), (72, .bool (decide ((IntKind.i64.wrap (a8 + a9)) > 32)))] (by kernel_rfl) ?_
    refine EL.done (by kernel_rfl) ?_
    refine EQ.code ?_
    refine EW.cdP ((IntKind.i64.wrap (a8 + a9)) > 32) (by kernel_rfl) (by kernel_rfl) (fun q1 => ?_) (fun q1 => ?_)
    ·rw [if_pos q1] at H
     refine EW.sq (by kernel_rfl) ?_
     refine EW.rg (by kernel_rfl) ?_
     refine EL.quick 2 [0, 4, 5, 7, 8, 73, 74] [(0, sv (some a4) a3 a2), (4, sv (some b6) b3 a6), (5, sv b7 b0 b2), (7, sv (some b5) b4 a1), (8, ia a0), (73, sv b7 b0 b2), (74, ia (a1.getD a0.toNat 0))] (by kernel_rfl) ?_
     obtain ⟨q2, H⟩ := ite_in H
     obtain ⟨i0, rfl⟩ := St.rd_some hS (Rd.own 1 4 rfl) d2 q2
     refine EL.of (EO.Y (YO.idx 84 1 i0 b2.length b0 .i64 (a1.getD a0.toNat 0) 75 (by kernel_rfl) (by kernel_rfl) (by kernel_rfl) (by kernel_rfl) d2 q2) ?_)
     obtain ⟨i8, u5, H⟩ := lt_out H
     refine EL.of (EO.storeEl hS 1 Kd.bool 4 i0 b0 b2 rfl (a1.getD a0.toNat 0) d2 q2 false 4 1 0 rfl (.bool (true)) true i8 u5 (Ass.own 3 (Kd.int .i64) (some b5) b4 a1 :: Ass.own 4 Kd.bool (some i0) b0 i8 :: Ass.own 3 (Kd.int .i64) (some b6) b3 a6 :: os) (by kernel_rfl) (by kernel_rfl) (by kernel_rfl) (by kernel_rfl) (by kernel_rfl) (by kernel_rfl) (fun w G vs hr h => set_whole h (by kernel_rfl) rfl) rfl ?_)
     intro w hS
     refine EL.keep [0, 4, 5, 7, 8] [(0, sv (some a4) a3 a2), (4, sv (some b6) b3 a6), (5, sv (some i0) b0 b2), (7, sv (some b5) b4 a1), (8, ia a0)] (by kernel_rfl) ?_
     refine EL.as' [(0, sv (some a4) a3 a2), (4, sv (some b6) b3 a6), (5, sv (some i0) b0 i8), (7, sv (some b5) b4 a1), (8, ia a0)] (by simp only [encS32, sv, u5, List.length_set]) ?_
     refine EL.done (by kernel_rfl) ?_
     refine EQ.code ?_
     refine EW.exit (id := 3) (by kernel_rfl) ?_
     refine EQ.exitCode ?_
     refine EQ.exitHere ?_
     refine EQ.to ?_
     refine EQ.keep [0, 4, 5, 7, 8] [(0, sv (some a4) a3 a2), (4, sv (some b6) b3 a6), (5, sv (some i0) b0 i8), (7, sv (some b5) b4 a1), (8, ia a0)] (by kernel_rfl) ?_
     exact fun a ha => ⟨a1, i8, a6, (some b5), b4, (some i0), b0, (some b6), b3, ha, (hS.re [2, 2, 2] [] rfl (sub_cons 0 rfl (sub_tail (sub_self)))), H⟩
    rw [if_neg q1] at H
    refine EW.skip (by kernel_rfl) ?_
    refine EQ.code ?_
    refine EW.sq (by kernel_rfl) ?_
    refine EW.rg (by kernel_rfl) ?_
    refine EL.quick 1 [0, 4, 5, 7, 8, 9, 10, 11] [(0, sv (some a4) a3 a2), (4, sv (some b6) b3 a6), (5, sv b7 b0 b2), (7, sv (some b5) b4 a1), (8, ia a0), (9, ia (a1.getD a0.toNat 0)), (10, ia (IntKind.i64.wrap (a8 + a9))), (11, sv none 0 ([] : List Int))] (by kernel_rfl) ?_
    refine EL.done (by kernel_rfl) ?_
    refine EQ.code ?_
    obtain ⟨o7, x4, H⟩ := lt_out H
    refine EW.ct (fun a w => ∃ d6 : List Int, ∃ e4 : Option Addr, ∃ e5 : Nat, Sat 156 [(0, sv (some a4) a3 a2), (4, sv (some b6) b3 a6), (5, sv b7 b0 b2), (7, sv (some b5) b4 a1), (8, ia a0), (9, ia (a1.getD a0.toNat 0)), (10, ia (IntKind.i64.wrap (a8 + a9))), (11, sv e4 e5 d6)] a ∧ St B w (Ass.own 3 (Kd.int .i64) (some b5) b4 a1 :: Ass.own 4 Kd.bool b7 b0 b2 :: Ass.own 3 (Kd.int .i64) (some b6) b3 a6 :: Ass.own 3 (Kd.int .i64) e4 e5 d6 :: os) (Ro.sl kS32 (some a4) a3 a2 :: rs) ∧ o7 d6 = some (e2, e3)) (by kernel_rfl) ?_ (fun a w hI => ?_)
    ·obtain ⟨o8, x5, H⟩ := lt_out H
     refine EW.ct (fun a w => ∃ n8 : Bool, Sat 156 [(0, sv (some a4) a3 a2), (4, sv (some b6) b3 a6), (5, sv b7 b0 b2), (7, sv (some b5) b4 a1), (8, ia a0), (9, ia (a1.getD a0.toNat 0)), (10, ia (IntKind.i64.wrap (a8 + a9))), (11, sv none 0 ([] : List Int)), (90, .bool (n8))] a ∧ St B w (Ass.own 3 (Kd.int .i64) (some b5) b4 a1 :: Ass.own 4 Kd.bool b7 b0 b2 :: Ass.own 3 (Kd.int .i64) (some b6) b3 a6 :: os) (Ro.sl kS32 (some a4) a3 a2 :: rs) ∧ o8 n8 = some (e2, e3)) (by kernel_rfl) ?_ (fun a w hI => ?_)
     ·refine EW.rg (by kernel_rfl) ?_
      refine EL.quick 2 [0, 4, 5, 7, 8, 9, 10, 11, 76, 77] [(0, sv (some a4) a3 a2), (4, sv (some b6) b3 a6), (5, sv b7 b0 b2), (7, sv (some b5) b4 a1), (8, ia a0), (9, ia (a1.getD a0.toNat 0)), (10, ia (IntKind.i64.wrap (a8 + a9))), (11, sv none 0 ([] : List Int)), (76, sv (some a4) a3 a2), (77, ia (a1.getD a0.toNat 0))] (by kernel_rfl) ?_
      refine EL.of (EO.Y (YO.idx 29 2 a4 a2.length a3 .i64 (a1.getD a0.toNat 0) 78 (by kernel_rfl) (by kernel_rfl) (by kernel_rfl) (by kernel_rfl) d2 e1) ?_)
      refine EL.quick 1 [0, 4, 5, 7, 8, 9, 10, 11, 79] [(0, sv (some a4) a3 a2), (4, sv (some b6) b3 a6), (5, sv b7 b0 b2), (7, sv (some b5) b4 a1), (8, ia a0), (9, ia (a1.getD a0.toNat 0)), (10, ia (IntKind.i64.wrap (a8 + a9))), (11, sv none 0 ([] : List Int)), (79, .pointer (some ((a4.add ((a1.getD a0.toNat 0).toNat * 2)).add 0)))] (by kernel_rfl) ?_
      refine EL.of (EO.Y (YO.loadEl hS kS32 a4 a3 a2 (Rd.ro 0 rfl) zS32 encS32 encS32_of (a1.getD a0.toNat 0) d2 e1 3 2 0 1 rfl (ia ((a2.getD (a1.getD a0.toNat 0).toNat zS32).f0)) 80 (by kernel_rfl) (by kernel_rfl) (by kernel_rfl) (by kernel_rfl)) ?_)
      obtain ⟨n7, v9, H⟩ := b1_out H
      have hq := confidantref5_Ends.calls v9 hS
      refine EL.of (EO.callD 68 [ia ((a2.getD (a1.getD a0.toNat 0).toNat zS32).f0)] _ 81 (by kernel_rfl) (by kernel_rfl) (by kernel_rfl) hq ?_)
      rintro v w ⟨rfl, hS⟩
      refine EL.quick 2 [0, 4, 5, 7, 8, 9, 10, 11, 83] [(0, sv (some a4) a3 a2), (4, sv (some b6) b3 a6), (5, sv b7 b0 b2), (7, sv (some b5) b4 a1), (8, ia a0), (9, ia (a1.getD a0.toNat 0)), (10, ia (IntKind.i64.wrap (a8 + a9))), (11, sv none 0 ([] : List Int)), (83, .bool (!(n7)))] (by kernel_rfl) ?_
      by_cases o6 : n7 = true
      ·rw [if_pos o6] at H
       refine EL.keep [0, 4, 5, 7, 8, 9, 10, 11, 83] [(0, sv (some a4) a3 a2), (4, sv (some b6) b3 a6), (5, sv b7 b0 b2), (7, sv (some b5) b4 a1), (8, ia a0), (9, ia (a1.getD a0.toNat 0)), (10, ia (IntKind.i64.wrap (a8 + a9))), (11, sv none 0 ([] : List Int)), (83, .bool (!(n7)))] (by kernel_rfl) ?_
       refine EL.as' [(0, sv (some a4) a3 a2), (4, sv (some b6) b3 a6), (5, sv b7 b0 b2), (7, sv (some b5) b4 a1), (8, ia a0), (9, ia (a1.getD a0.toNat 0)), (10, ia (IntKind.i64.wrap (a8 + a9))), (11, sv none 0 ([] : List Int)), (83, .bool (false))] (by simp only [encS32, sv, o6, Bool.not_true, Bool.not_false]) ?_
       refine EL.quick 7 [0, 4, 5, 7, 8, 9, 10, 11, 90] [(0, sv (some a4) a3 a2), (4, sv (some b6) b3 a6), (5, sv b7 b0 b2), (7, sv (some b5) b4 a1), (8, ia a0), (9, ia (a1.getD a0.toNat 0)), (10, ia (IntKind.i64.wrap (a8 + a9))), (11, sv none 0 ([] : List Int)), (90, .bool (false))] (by kernel_rfl) ?_
       refine EL.done (by kernel_rfl) ?_
       refine EQ.to ?_
       refine EQ.keep [0, 4, 5, 7, 8, 9, 10, 11, 90] [(0, sv (some a4) a3 a2), (4, sv (some b6) b3 a6), (5, sv b7 b0 b2), (7, sv (some b5) b4 a1), (8, ia a0), (9, ia (a1.getD a0.toNat 0)), (10, ia (IntKind.i64.wrap (a8 + a9))), (11, sv none 0 ([] : List Int)), (90, .bool (false))] (by kernel_rfl) ?_
       exact fun a ha => ⟨false, ha, (hS.re [2, 2, 2] [] rfl (sub_cons 0 rfl (sub_tail (sub_self)))), H⟩
      rw [if_neg o6] at H
      refine EL.keep [0, 4, 5, 7, 8, 9, 10, 11, 83] [(0, sv (some a4) a3 a2), (4, sv (some b6) b3 a6), (5, sv b7 b0 b2), (7, sv (some b5) b4 a1), (8, ia a0), (9, ia (a1.getD a0.toNat 0)), (10, ia (IntKind.i64.wrap (a8 + a9))), (11, sv none 0 ([] : List Int)), (83, .bool (!(n7)))] (by kernel_rfl) ?_
      refine EL.as' [(0, sv (some a4) a3 a2), (4, sv (some b6) b3 a6), (5, sv b7 b0 b2), (7, sv (some b5) b4 a1), (8, ia a0), (9, ia (a1.getD a0.toNat 0)), (10, ia (IntKind.i64.wrap (a8 + a9))), (11, sv none 0 ([] : List Int)), (83, .bool (true))] (by simp only [encS32, sv, (Bool.eq_false_iff.2 o6), Bool.not_true, Bool.not_false]) ?_
      refine EL.quick 2 [0, 4, 5, 7, 8, 9, 10, 11, 83, 84, 85] [(0, sv (some a4) a3 a2), (4, sv (some b6) b3 a6), (5, sv b7 b0 b2), (7, sv (some b5) b4 a1), (8, ia a0), (9, ia (a1.getD a0.toNat 0)), (10, ia (IntKind.i64.wrap (a8 + a9))), (11, sv none 0 ([] : List Int)), (83, .bool (true)), (84, sv (some a4) a3 a2), (85, ia (a1.getD a0.toNat 0))] (by kernel_rfl) ?_
      refine EL.of (EO.Y (YO.idx 29 2 a4 a2.length a3 .i64 (a1.getD a0.toNat 0) 86 (by kernel_rfl) (by kernel_rfl) (by kernel_rfl) (by kernel_rfl) d2 e1) ?_)
      refine EL.quick 1 [0, 4, 5, 7, 8, 9, 10, 11, 83, 84, 85, 86, 87] [(0, sv (some a4) a3 a2), (4, sv (some b6) b3 a6), (5, sv b7 b0 b2), (7, sv (some b5) b4 a1), (8, ia a0), (9, ia (a1.getD a0.toNat 0)), (10, ia (IntKind.i64.wrap (a8 + a9))), (11, sv none 0 ([] : List Int)), (83, .bool (true)), (84, sv (some a4) a3 a2), (85, ia (a1.getD a0.toNat 0)), (86, .pointer (some ((a4.add ((a1.getD a0.toNat 0).toNat * 2)).add 0))), (87, .pointer (some ((a4.add ((a1.getD a0.toNat 0).toNat * 2)).add 0)))] (by kernel_rfl) ?_
      refine EL.of (EO.Y (YO.loadEl hS kS32 a4 a3 a2 (Rd.ro 0 rfl) zS32 encS32 encS32_of (a1.getD a0.toNat 0) d2 e1 3 2 0 1 rfl (ia ((a2.getD (a1.getD a0.toNat 0).toNat zS32).f0)) 88 (by kernel_rfl) (by kernel_rfl) (by kernel_rfl) (by kernel_rfl)) ?_)
      refine EL.quick 2 [0, 4, 5, 7, 8, 9, 10, 11, 84, 85, 86, 87, 88, 89, 90] [(0, sv (some a4) a3 a2), (4, sv (some b6) b3 a6), (5, sv b7 b0 b2), (7, sv (some b5) b4 a1), (8, ia a0), (9, ia (a1.getD a0.toNat 0)), (10, ia (IntKind.i64.wrap (a8 + a9))), (11, sv none 0 ([] : List Int)), (84, sv (some a4) a3 a2), (85, ia (a1.getD a0.toNat 0)), (86, .pointer (some ((a4.add ((a1.getD a0.toNat 0).toNat * 2)).add 0))), (87, .pointer (some ((a4.add ((a1.getD a0.toNat 0).toNat * 2)).add 0))), (88, ia ((a2.getD (a1.getD a0.toNat 0).toNat zS32).f0)), (89, .bool (!(decide (((a2.getD (a1.getD a0.toNat 0).toNat zS32).f0) = 10)))), (90, .bool (!(decide (((a2.getD (a1.getD a0.toNat 0).toNat zS32).f0) = 10))))] (by kernel_rfl) ?_
      refine EL.done (by kernel_rfl) ?_
      refine EQ.to ?_
      refine EQ.keep [0, 4, 5, 7, 8, 9, 10, 11, 90] [(0, sv (some a4) a3 a2), (4, sv (some b6) b3 a6), (5, sv b7 b0 b2), (7, sv (some b5) b4 a1), (8, ia a0), (9, ia (a1.getD a0.toNat 0)), (10, ia (IntKind.i64.wrap (a8 + a9))), (11, sv none 0 ([] : List Int)), (90, .bool (!(decide (((a2.getD (a1.getD a0.toNat 0).toNat zS32).f0) = 10))))] (by kernel_rfl) ?_
      exact fun a ha => ⟨!(decide (((a2.getD (a1.getD a0.toNat 0).toNat zS32).f0) = 10)), ha, (hS.re [2, 2, 2] [] rfl (sub_cons 0 rfl (sub_tail (sub_self)))), H⟩
     obtain ⟨n8, ha, hS, H⟩ := hI
     rw [x5] at H
     (try dsimp only at H)
     refine EW.at ?_ a ha
     clear ha a
     refine EW.cdP' (n8) (by kernel_rfl) (by kernel_rfl) (fun q3 => ?_) (fun q3 => ?_)
     ·rw [if_pos q3] at H
      refine EW.rg (by kernel_rfl) ?_
      refine EL.quick 3 [0, 4, 5, 7, 8, 9, 10, 91, 93] [(0, sv (some a4) a3 a2), (4, sv (some b6) b3 a6), (5, sv b7 b0 b2), (7, sv (some b5) b4 a1), (8, ia a0), (9, ia (a1.getD a0.toNat 0)), (10, ia (IntKind.i64.wrap (a8 + a9))), (91, sv none 0 ([] : List Int)), (93, ia (IntKind.i64.wrap ((a1.getD a0.toNat 0) + 1)))] (by kernel_rfl) ?_
      obtain ⟨n4, u6, H⟩ := lt_out H
      refine EL.of (EO.lit hS (Kd.int .i64) 3 39 1 #[(0, ia (IntKind.i64.wrap ((a1.getD a0.toNat 0) + 1)))] [ia (IntKind.i64.wrap ((a1.getD a0.toNat 0) + 1))] n4 94 (by kernel_rfl) (by kernel_rfl) (by kernel_rfl) (fun _ => (by kernel_rfl)) (by rw [u6]; rfl) (by kernel_rfl) (fun w G hr => (by rw [u6]; exact ⟨[ia (IntKind.i64.wrap ((a1.getD a0.toNat 0) + 1))], [], rfl, rfl, rfl⟩)) ?_)
      intro t7 w hS
      have hS := St.nilO hS 3 (Kd.int .i64)
      obtain ⟨v4, H⟩ := ite_in H
      obtain ⟨i9, y0, H⟩ := lt_out H
      refine EL.of (EO.append hS 39 39 3 8 0 (Kd.int .i64) none 0 ([] : List Int) rfl (some ⟨t7, 0, none⟩) 1 n4 (Rd.own 1 3 rfl) i9 y0 (fun n9 o2 => Ass.own 3 (Kd.int .i64) n9 o2 i9 :: Ass.own 3 (Kd.int .i64) (some ⟨t7, 0, none⟩) 1 n4 :: Ass.own 3 (Kd.int .i64) (some b5) b4 a1 :: Ass.own 4 Kd.bool b7 b0 b2 :: Ass.own 3 (Kd.int .i64) (some b6) b3 a6 :: os) 95 (by kernel_rfl) (by kernel_rfl) (by kernel_rfl) (by kernel_rfl) v4 (fun _ _ => rfl) ?_)
      intro n9 o2 w hS
      refine EL.quick 1 [0, 4, 5, 7, 8, 9, 10, 11] [(0, sv (some a4) a3 a2), (4, sv (some b6) b3 a6), (5, sv b7 b0 b2), (7, sv (some b5) b4 a1), (8, ia a0), (9, ia (a1.getD a0.toNat 0)), (10, ia (IntKind.i64.wrap (a8 + a9))), (11, sv n9 o2 i9)] (by kernel_rfl) ?_
      refine EL.done (by kernel_rfl) ?_
      refine EQ.to ?_
      refine EQ.keep [0, 4, 5, 7, 8, 9, 10, 11] [(0, sv (some a4) a3 a2), (4, sv (some b6) b3 a6), (5, sv b7 b0 b2), (7, sv (some b5) b4 a1), (8, ia a0), (9, ia (a1.getD a0.toNat 0)), (10, ia (IntKind.i64.wrap (a8 + a9))), (11, sv n9 o2 i9)] (by kernel_rfl) ?_
      exact fun a ha => ⟨i9, n9, o2, ha, (hS.re [0, 4, 4, 4] [4] rfl (sub_cons 0 rfl (sub_tail (sub_self)))), H⟩
     rw [if_neg q3] at H
     refine EW.skip (by kernel_rfl) ?_
     refine EQ.to ?_
     have hS := St.nilO hS 3 (Kd.int .i64)
     refine EQ.keep [0, 4, 5, 7, 8, 9, 10, 11] [(0, sv (some a4) a3 a2), (4, sv (some b6) b3 a6), (5, sv b7 b0 b2), (7, sv (some b5) b4 a1), (8, ia a0), (9, ia (a1.getD a0.toNat 0)), (10, ia (IntKind.i64.wrap (a8 + a9))), (11, sv none 0 ([] : List Int))] (by kernel_rfl) ?_
     exact fun a ha => ⟨([] : List Int), none, 0, ha, (hS.re [0, 3, 3, 3] [] rfl (sub_cons 0 rfl (sub_tail (sub_self)))), H⟩
    obtain ⟨d6, e4, e5, ha, hS, H⟩ := hI
    rw [x4] at H
    (try dsimp only at H)
    refine EW.at ?_ a ha
    clear ha a
    obtain ⟨o9, x6, H⟩ := lt_out H
    refine EW.ct (fun a w => ∃ a5 : List Int, ∃ e0 : Option Addr, ∃ c2 : Nat, Sat 156 [(0, sv (some a4) a3 a2), (4, sv (some b6) b3 a6), (5, sv b7 b0 b2), (7, sv (some b5) b4 a1), (8, ia a0), (9, ia (a1.getD a0.toNat 0)), (10, ia (IntKind.i64.wrap (a8 + a9))), (11, sv e0 c2 a5)] a ∧ St B w (Ass.own 3 (Kd.int .i64) (some b5) b4 a1 :: Ass.own 4 Kd.bool b7 b0 b2 :: Ass.own 3 (Kd.int .i64) (some b6) b3 a6 :: Ass.own 3 (Kd.int .i64) e0 c2 a5 :: os) (Ro.sl kS32 (some a4) a3 a2 :: rs) ∧ o9 a5 = some (e2, e3)) (by kernel_rfl) ?_ (fun a w hI => ?_)
    ·refine EW.sq (by kernel_rfl) ?_
     refine EW.rg (by kernel_rfl) ?_
     refine EL.quick 2 [0, 4, 5, 7, 8, 9, 10, 11, 96, 97] [(0, sv (some a4) a3 a2), (4, sv (some b6) b3 a6), (5, sv b7 b0 b2), (7, sv (some b5) b4 a1), (8, ia a0), (9, ia (a1.getD a0.toNat 0)), (10, ia (IntKind.i64.wrap (a8 + a9))), (11, sv e4 e5 d6), (96, sv (some a4) a3 a2), (97, ia (a1.getD a0.toNat 0))] (by kernel_rfl) ?_
     refine EL.of (EO.Y (YO.idx 29 2 a4 a2.length a3 .i64 (a1.getD a0.toNat 0) 98 (by kernel_rfl) (by kernel_rfl) (by kernel_rfl) (by kernel_rfl) d2 e1) ?_)
     refine EL.quick 1 [0, 4, 5, 7, 8, 9, 10, 11, 99] [(0, sv (some a4) a3 a2), (4, sv (some b6) b3 a6), (5, sv b7 b0 b2), (7, sv (some b5) b4 a1), (8, ia a0), (9, ia (a1.getD a0.toNat 0)), (10, ia (IntKind.i64.wrap (a8 + a9))), (11, sv e4 e5 d6), (99, .pointer (some ((a4.add ((a1.getD a0.toNat 0).toNat * 2)).add 0)))] (by kernel_rfl) ?_
     refine EL.of (EO.Y (YO.loadEl hS kS32 a4 a3 a2 (Rd.ro 0 rfl) zS32 encS32 encS32_of (a1.getD a0.toNat 0) d2 e1 3 2 0 1 rfl (ia ((a2.getD (a1.getD a0.toNat 0).toNat zS32).f0)) 100 (by kernel_rfl) (by kernel_rfl) (by kernel_rfl) (by kernel_rfl)) ?_)
     obtain ⟨p0, x0, H⟩ := b1_out H
     have hq := confidantref5_Arg.calls x0 hS
     refine EL.of (EO.callD 24 [ia ((a2.getD (a1.getD a0.toNat 0).toNat zS32).f0)] _ 101 (by kernel_rfl) (by kernel_rfl) (by kernel_rfl) hq ?_)
     rintro v w ⟨rfl, hS⟩
     refine EL.quick 1 [0, 4, 5, 7, 8, 9, 10, 11, 102] [(0, sv (some a4) a3 a2), (4, sv (some b6) b3 a6), (5, sv b7 b0 b2), (7, sv (some b5) b4 a1), (8, ia a0), (9, ia (a1.getD a0.toNat 0)), (10, ia (IntKind.i64.wrap (a8 + a9))), (11, sv e4 e5 d6), (102, .bool (decide (p0 = 2)))] (by kernel_rfl) ?_
     refine EL.done (by kernel_rfl) ?_
     refine EQ.code ?_
     refine EW.cdP (p0 = 2) (by kernel_rfl) (by kernel_rfl) (fun q4 => ?_) (fun q4 => ?_)
     ·rw [if_pos q4] at H
      refine EW.rg (by kernel_rfl) ?_
      refine EL.quick 3 [0, 4, 5, 7, 8, 9, 10, 103, 104, 105] [(0, sv (some a4) a3 a2), (4, sv (some b6) b3 a6), (5, sv b7 b0 b2), (7, sv (some b5) b4 a1), (8, ia a0), (9, ia (a1.getD a0.toNat 0)), (10, ia (IntKind.i64.wrap (a8 + a9))), (103, sv e4 e5 d6), (104, sv (some a4) a3 a2), (105, ia (a1.getD a0.toNat 0))] (by kernel_rfl) ?_
      refine EL.of (EO.Y (YO.idx 29 2 a4 a2.length a3 .i64 (a1.getD a0.toNat 0) 106 (by kernel_rfl) (by kernel_rfl) (by kernel_rfl) (by kernel_rfl) d2 e1) ?_)
      refine EL.quick 1 [0, 4, 5, 7, 8, 9, 10, 103, 107] [(0, sv (some a4) a3 a2), (4, sv (some b6) b3 a6), (5, sv b7 b0 b2), (7, sv (some b5) b4 a1), (8, ia a0), (9, ia (a1.getD a0.toNat 0)), (10, ia (IntKind.i64.wrap (a8 + a9))), (103, sv e4 e5 d6), (107, .pointer (some ((a4.add ((a1.getD a0.toNat 0).toNat * 2)).add 1)))] (by kernel_rfl) ?_
      refine EL.of (EO.Y (YO.loadEl hS kS32 a4 a3 a2 (Rd.ro 0 rfl) zS32 encS32 encS32_of (a1.getD a0.toNat 0) d2 e1 21 2 1 1 rfl (ib ((a2.getD (a1.getD a0.toNat 0).toNat zS32).f1)) 108 (by kernel_rfl) (by kernel_rfl) (by kernel_rfl) (by kernel_rfl)) ?_)
      refine EL.quick 1 [0, 4, 5, 7, 8, 9, 10, 103, 109] [(0, sv (some a4) a3 a2), (4, sv (some b6) b3 a6), (5, sv b7 b0 b2), (7, sv (some b5) b4 a1), (8, ia a0), (9, ia (a1.getD a0.toNat 0)), (10, ia (IntKind.i64.wrap (a8 + a9))), (103, sv e4 e5 d6), (109, ia (IntKind.i64.wrap ((a2.getD (a1.getD a0.toNat 0).toNat zS32).f1)))] (by kernel_rfl) ?_
      obtain ⟨n5, u7, H⟩ := lt_out H
      refine EL.of (EO.lit hS (Kd.int .i64) 3 39 1 #[(0, ia (IntKind.i64.wrap ((a2.getD (a1.getD a0.toNat 0).toNat zS32).f1)))] [ia (IntKind.i64.wrap ((a2.getD (a1.getD a0.toNat 0).toNat zS32).f1))] n5 110 (by kernel_rfl) (by kernel_rfl) (by kernel_rfl) (fun _ => (by kernel_rfl)) (by rw [u7]; rfl) (by kernel_rfl) (fun w G hr => (by rw [u7]; exact ⟨[ia (IntKind.i64.wrap ((a2.getD (a1.getD a0.toNat 0).toNat zS32).f1))], [], rfl, rfl, rfl⟩)) ?_)
      intro t8 w hS
      obtain ⟨v5, H⟩ := ite_in H
      obtain ⟨j0, y1, H⟩ := lt_out H
      refine EL.of (EO.append hS 39 39 3 8 4 (Kd.int .i64) e4 e5 d6 rfl (some ⟨t8, 0, none⟩) 1 n5 (Rd.own 0 3 rfl) j0 y1 (fun o0 o3 => Ass.own 3 (Kd.int .i64) (some ⟨t8, 0, none⟩) 1 n5 :: Ass.own 3 (Kd.int .i64) (some b5) b4 a1 :: Ass.own 4 Kd.bool b7 b0 b2 :: Ass.own 3 (Kd.int .i64) (some b6) b3 a6 :: Ass.own 3 (Kd.int .i64) o0 o3 j0 :: os) 111 (by kernel_rfl) (by kernel_rfl) (by kernel_rfl) (by kernel_rfl) v5 (fun _ _ => rfl) ?_)
      intro o0 o3 w hS
      refine EL.quick 1 [0, 4, 5, 7, 8, 9, 10, 11] [(0, sv (some a4) a3 a2), (4, sv (some b6) b3 a6), (5, sv b7 b0 b2), (7, sv (some b5) b4 a1), (8, ia a0), (9, ia (a1.getD a0.toNat 0)), (10, ia (IntKind.i64.wrap (a8 + a9))), (11, sv o0 o3 j0)] (by kernel_rfl) ?_
      refine EL.done (by kernel_rfl) ?_
      refine EQ.to ?_
      refine EQ.keep [0, 4, 5, 7, 8, 9, 10, 11] [(0, sv (some a4) a3 a2), (4, sv (some b6) b3 a6), (5, sv b7 b0 b2), (7, sv (some b5) b4 a1), (8, ia a0), (9, ia (a1.getD a0.toNat 0)), (10, ia (IntKind.i64.wrap (a8 + a9))), (11, sv o0 o3 j0)] (by kernel_rfl) ?_
      exact fun a ha => ⟨j0, o0, o3, ha, (hS.re [4, 4, 4, 4] [4] rfl (sub_cons 0 rfl (sub_tail (sub_self)))), H⟩
     rw [if_neg q4] at H
     refine EW.skip (by kernel_rfl) ?_
     refine EQ.to ?_
     refine EQ.keep [0, 4, 5, 7, 8, 9, 10, 11] [(0, sv (some a4) a3 a2), (4, sv (some b6) b3 a6), (5, sv b7 b0 b2), (7, sv (some b5) b4 a1), (8, ia a0), (9, ia (a1.getD a0.toNat 0)), (10, ia (IntKind.i64.wrap (a8 + a9))), (11, sv e4 e5 d6)] (by kernel_rfl) ?_
     exact fun a ha => ⟨d6, e4, e5, ha, (hS.re [3, 3, 3, 3] [] rfl (sub_cons 0 rfl (sub_tail (sub_self)))), H⟩
    obtain ⟨a5, e0, c2, ha, hS, H⟩ := hI
    rw [x6] at H
    (try dsimp only at H)
    refine EW.at ?_ a ha
    clear ha a
    refine EW.sq (by kernel_rfl) ?_
    refine EW.rg (by kernel_rfl) ?_
    refine EL.quick 1 [0, 4, 5, 7, 8, 9, 10, 11, 12] [(0, sv (some a4) a3 a2), (4, sv (some b6) b3 a6), (5, sv b7 b0 b2), (7, sv (some b5) b4 a1), (8, ia a0), (9, ia (a1.getD a0.toNat 0)), (10, ia (IntKind.i64.wrap (a8 + a9))), (11, sv e0 c2 a5), (12, ia 0)] (by kernel_rfl) ?_
    refine EL.done (by kernel_rfl) ?_
    refine EQ.code ?_
    refine EW.bl 4 (by kernel_rfl) ?_
    refine EW.lp (fun n a w => ∃ c3 : List Int, ∃ c0 : List Bool, ∃ b8 : List Int, ∃ a7 : Int, ∃ c5 : Option Addr, ∃ c6 : Nat, ∃ c8 : Option Addr, ∃ c1 : Nat, ∃ d5 : Option Addr, ∃ b9 : Nat, Sat 156 [(0, sv (some a4) a3 a2), (4, sv d5 b9 b8), (5, sv c8 c1 c0), (7, sv c5 c6 c3), (8, ia a0), (9, ia (a1.getD a0.toNat 0)), (10, ia (IntKind.i64.wrap (a8 + a9))), (11, sv e0 c2 a5), (12, ia a7)] a ∧ St B w (Ass.own 3 (Kd.int .i64) c5 c6 c3 :: Ass.own 4 Kd.bool c8 c1 c0 :: Ass.own 3 (Kd.int .i64) d5 b9 b8 :: Ass.own 3 (Kd.int .i64) e0 c2 a5 :: os) (Ro.sl kS32 (some a4) a3 a2 :: rs) ∧ confidantref5_walk.l2 K a5 a2 a1 a0 a8 a9 f3 n c3 c0 b8 a7 = some (e2, e3)) K (by kernel_rfl) ?_ (fun n a w hI => ?_)
    ·refine EQ.keep [0, 4, 5, 7, 8, 9, 10, 11, 12] [(0, sv (some a4) a3 a2), (4, sv (some b6) b3 a6), (5, sv b7 b0 b2), (7, sv (some b5) b4 a1), (8, ia a0), (9, ia (a1.getD a0.toNat 0)), (10, ia (IntKind.i64.wrap (a8 + a9))), (11, sv e0 c2 a5), (12, ia 0)] (by kernel_rfl) ?_
     exact fun a ha => ⟨a1, b2, a6, 0, (some b5), b4, b7, b0, (some b6), b3, ha, (hS.re [3, 3, 3, 3] [] rfl (sub_cons 0 rfl (sub_tail (sub_self)))), H⟩
    obtain ⟨c3, c0, b8, a7, c5, c6, c8, c1, d5, b9, ha, hS, H⟩ := hI
    obtain _ | n := n
    ·simp [confidantref5_walk.l2] at H
    rw [confidantref5_walk.l2.eq_2] at H
    refine EW.at ?_ a ha
    clear ha a
    refine EW.sq (by kernel_rfl) ?_
    refine EW.sq (by kernel_rfl) ?_
    refine EW.rg (by kernel_rfl) ?_
    refine EL.quick 4 [0, 4, 5, 7, 8, 9, 10, 11, 12, 115] [(0, sv (some a4) a3 a2), (4, sv d5 b9 b8), (5, sv c8 c1 c0), (7, sv c5 c6 c3), (8, ia a0), (9, ia (a1.getD a0.toNat 0)), (10, ia (IntKind.i64.wrap (a8 + a9))), (11, sv e0 c2 a5), (12, ia a7), (115, .bool (decide (a7 < (a5.length : Int))))] (by kernel_rfl) ?_
    refine EL.done (by kernel_rfl) ?_
    refine EQ.code ?_
    refine EW.cdP (a7 < (a5.length : Int)) (by kernel_rfl) (by kernel_rfl) (fun n2 => ?_) (fun n2 => ?_)
    ·rw [if_pos n2] at H
     refine EW.skip (by kernel_rfl) ?_
     refine EQ.code ?_
     obtain ⟨n3, x7, H⟩ := lt_out H
     refine EW.ct (fun a w => ∃ f9 : List Int, ∃ g0 : List Bool, ∃ g1 : List Int, ∃ j9 : Option Addr, ∃ m7 : Nat, ∃ m0 : Option Addr, ∃ m8 : Nat, ∃ m1 : Option Addr, ∃ m9 : Nat, Sat 156 [(0, sv (some a4) a3 a2), (4, sv m1 m9 g1), (5, sv m0 m8 g0), (7, sv j9 m7 f9), (8, ia a0), (9, ia (a1.getD a0.toNat 0)), (10, ia (IntKind.i64.wrap (a8 + a9))), (11, sv e0 c2 a5), (12, ia a7)] a ∧ St B w (Ass.own 3 (Kd.int .i64) j9 m7 f9 :: Ass.own 4 Kd.bool m0 m8 g0 :: Ass.own 3 (Kd.int .i64) m1 m9 g1 :: Ass.own 3 (Kd.int .i64) e0 c2 a5 :: os) (Ro.sl kS32 (some a4) a3 a2 :: rs) ∧ n3 f9 g0 g1 = some (e2, e3)) (by kernel_rfl) ?_ (fun a w hI => ?_)
     ·refine EW.bl 5 (by kernel_rfl) ?_
      refine EW.sq (by kernel_rfl) ?_
      refine EW.rg (by kernel_rfl) ?_
      refine EL.quick 2 [0, 4, 5, 7, 8, 9, 10, 11, 12, 118, 119] [(0, sv (some a4) a3 a2), (4, sv d5 b9 b8), (5, sv c8 c1 c0), (7, sv c5 c6 c3), (8, ia a0), (9, ia (a1.getD a0.toNat 0)), (10, ia (IntKind.i64.wrap (a8 + a9))), (11, sv e0 c2 a5), (12, ia a7), (118, sv e0 c2 a5), (119, ia a7)] (by kernel_rfl) ?_
      obtain ⟨q5, H⟩ := ite_in H
      obtain ⟨d0, rfl⟩ := St.rd_some hS (Rd.own 3 3 rfl) q5 n2
      refine EL.of (EO.Y (YO.idx 39 1 d0 a5.length c2 .i64 a7 120 (by kernel_rfl) (by kernel_rfl) (by kernel_rfl) (by kernel_rfl) q5 n2) ?_)
      refine EL.of (EO.Y (YO.loadEl hS (Kd.int .i64) d0 c2 a5 (Rd.own 3 3 rfl) 0 (encI .i64) encI_of a7 q5 n2 3 1 0 1 rfl (ia (a5.getD a7.toNat 0)) 121 (by kernel_rfl) (by kernel_rfl) (by kernel_rfl) (by kernel_rfl)) ?_)
      refine EL.quick 1 [0, 4, 5, 7, 8, 9, 10, 11, 12, 13] [(0, sv (some a4) a3 a2), (4, sv d5 b9 b8), (5, sv c8 c1 c0), (7, sv c5 c6 c3), (8, ia a0), (9, ia (a1.getD a0.toNat 0)), (10, ia (IntKind.i64.wrap (a8 + a9))), (11, sv (some d0) c2 a5), (12, ia a7), (13, ia (a5.getD a7.toNat 0))] (by kernel_rfl) ?_
      refine EL.done (by kernel_rfl) ?_
      refine EQ.code ?_
      refine EW.bl 6 (by kernel_rfl) ?_
      refine EW.sq (by kernel_rfl) ?_
      refine EW.rg (by kernel_rfl) ?_
      refine EL.quick 5 [0, 4, 5, 7, 8, 9, 10, 11, 12, 13, 122] [(0, sv (some a4) a3 a2), (4, sv d5 b9 b8), (5, sv c8 c1 c0), (7, sv c5 c6 c3), (8, ia a0), (9, ia (a1.getD a0.toNat 0)), (10, ia (IntKind.i64.wrap (a8 + a9))), (11, sv (some d0) c2 a5), (12, ia a7), (13, ia (a5.getD a7.toNat 0)), (122, .bool (decide ((a5.getD a7.toNat 0) ≥ (a2.length : Int))))] (by kernel_rfl) ?_
      refine EL.done (by kernel_rfl) ?_
      refine EQ.code ?_
      refine EW.cdP ((a5.getD a7.toNat 0) ≥ (a2.length : Int)) (by kernel_rfl) (by kernel_rfl) (fun q6 => ?_) (fun q6 => ?_)
      ·rw [if_pos q6] at H
       refine EW.rg (by kernel_rfl) ?_
       refine EL.quick 2 [0, 4, 5, 7, 8, 9, 10, 11, 12, 127, 128] [(0, sv (some a4) a3 a2), (4, sv d5 b9 b8), (5, sv c8 c1 c0), (7, sv c5 c6 c3), (8, ia a0), (9, ia (a1.getD a0.toNat 0)), (10, ia (IntKind.i64.wrap (a8 + a9))), (11, sv (some d0) c2 a5), (12, ia a7), (127, sv c8 c1 c0), (128, ia (a1.getD a0.toNat 0))] (by kernel_rfl) ?_
       obtain ⟨q7, H⟩ := ite_in H
       obtain ⟨i1, rfl⟩ := St.rd_some hS (Rd.own 1 4 rfl) d2 q7
       refine EL.of (EO.Y (YO.idx 84 1 i1 c0.length c1 .i64 (a1.getD a0.toNat 0) 129 (by kernel_rfl) (by kernel_rfl) (by kernel_rfl) (by kernel_rfl) d2 q7) ?_)
       obtain ⟨j1, u8, H⟩ := lt_out H
       refine EL.of (EO.storeEl hS 1 Kd.bool 4 i1 c1 c0 rfl (a1.getD a0.toNat 0) d2 q7 false 4 1 0 rfl (.bool (true)) true j1 u8 (Ass.own 3 (Kd.int .i64) c5 c6 c3 :: Ass.own 4 Kd.bool (some i1) c1 j1 :: Ass.own 3 (Kd.int .i64) d5 b9 b8 :: Ass.own 3 (Kd.int .i64) (some d0) c2 a5 :: os) (by kernel_rfl) (by kernel_rfl) (by kernel_rfl) (by kernel_rfl) (by kernel_rfl) (by kernel_rfl) (fun w G vs hr h => set_whole h (by kernel_rfl) rfl) rfl ?_)
       intro w hS
       refine EL.keep [0, 4, 5, 7, 8, 9, 10, 11, 12] [(0, sv (some a4) a3 a2), (4, sv d5 b9 b8), (5, sv (some i1) c1 c0), (7, sv c5 c6 c3), (8, ia a0), (9, ia (a1.getD a0.toNat 0)), (10, ia (IntKind.i64.wrap (a8 + a9))), (11, sv (some d0) c2 a5), (12, ia a7)] (by kernel_rfl) ?_
       refine EL.as' [(0, sv (some a4) a3 a2), (4, sv d5 b9 b8), (5, sv (some i1) c1 j1), (7, sv c5 c6 c3), (8, ia a0), (9, ia (a1.getD a0.toNat 0)), (10, ia (IntKind.i64.wrap (a8 + a9))), (11, sv (some d0) c2 a5), (12, ia a7)] (by simp only [encS32, sv, u8, List.length_set]) ?_
       refine EL.done (by kernel_rfl) ?_
       refine EQ.pop ?_
       refine EQ.pop ?_
       refine EQ.to ?_
       refine EQ.keep [0, 4, 5, 7, 8, 9, 10, 11, 12] [(0, sv (some a4) a3 a2), (4, sv d5 b9 b8), (5, sv (some i1) c1 j1), (7, sv c5 c6 c3), (8, ia a0), (9, ia (a1.getD a0.toNat 0)), (10, ia (IntKind.i64.wrap (a8 + a9))), (11, sv (some d0) c2 a5), (12, ia a7)] (by kernel_rfl) ?_
       exact fun a ha => ⟨c3, j1, b8, c5, c6, (some i1), c1, d5, b9, ha, (hS.re [3, 3, 3, 3] [] rfl (sub_cons 0 rfl (sub_tail (sub_self)))), H⟩
      rw [if_neg q6] at H
      refine EW.sq (by kernel_rfl) ?_
      refine EW.rg (by kernel_rfl) ?_
      refine EL.quick 2 [0, 4, 5, 7, 8, 9, 10, 11, 12, 13, 131, 132] [(0, sv (some a4) a3 a2), (4, sv d5 b9 b8), (5, sv c8 c1 c0), (7, sv c5 c6 c3), (8, ia a0), (9, ia (a1.getD a0.toNat 0)), (10, ia (IntKind.i64.wrap (a8 + a9))), (11, sv (some d0) c2 a5), (12, ia a7), (13, ia (a5.getD a7.toNat 0)), (131, sv d5 b9 b8), (132, ia (a5.getD a7.toNat 0))] (by kernel_rfl) ?_
      obtain ⟨e6, H⟩ := ite_in H
      obtain ⟨i3, H⟩ := ite_in H
      obtain ⟨c9, rfl⟩ := St.rd_some hS (Rd.own 2 3 rfl) e6 i3
      refine EL.of (EO.Y (YO.idx 39 1 c9 b8.length b9 .i64 (a5.getD a7.toNat 0) 133 (by kernel_rfl) (by kernel_rfl) (by kernel_rfl) (by kernel_rfl) e6 i3) ?_)
      refine EL.of (EO.Y (YO.loadEl hS (Kd.int .i64) c9 b9 b8 (Rd.own 2 3 rfl) 0 (encI .i64) encI_of (a5.getD a7.toNat 0) e6 i3 3 1 0 1 rfl (ia (b8.getD (a5.getD a7.toNat 0).toNat 0)) 134 (by kernel_rfl) (by kernel_rfl) (by kernel_rfl) (by kernel_rfl)) ?_)
      refine EL.quick 2 [0, 4, 5, 7, 8, 9, 10, 11, 12, 13, 130] [(0, sv (some a4) a3 a2), (4, sv (some c9) b9 b8), (5, sv c8 c1 c0), (7, sv c5 c6 c3), (8, ia a0), (9, ia (a1.getD a0.toNat 0)), (10, ia (IntKind.i64.wrap (a8 + a9))), (11, sv (some d0) c2 a5), (12, ia a7), (13, ia (a5.getD a7.toNat 0)), (130, .bool (decide ((b8.getD (a5.getD a7.toNat 0).toNat 0) < 0)))] (by kernel_rfl) ?_
      refine EL.done (by kernel_rfl) ?_
      refine EQ.code ?_
      refine EW.cdP ((b8.getD (a5.getD a7.toNat 0).toNat 0) < 0) (by kernel_rfl) (by kernel_rfl) (fun q8 => ?_) (fun q8 => ?_)
      ·rw [if_pos q8] at H
       refine EW.sq (by kernel_rfl) ?_
       refine EW.rg (by kernel_rfl) ?_
       refine EL.quick 3 [0, 4, 5, 7, 8, 9, 10, 11, 12, 13, 136, 137, 138] [(0, sv (some a4) a3 a2), (4, sv (some c9) b9 b8), (5, sv c8 c1 c0), (7, sv c5 c6 c3), (8, ia a0), (9, ia (a1.getD a0.toNat 0)), (10, ia (IntKind.i64.wrap (a8 + a9))), (11, sv (some d0) c2 a5), (12, ia a7), (13, ia (a5.getD a7.toNat 0)), (136, sv (some c9) b9 b8), (137, ia (a5.getD a7.toNat 0)), (138, ia (IntKind.i64.wrap (a8 + a9)))] (by kernel_rfl) ?_
       refine EL.of (EO.Y (YO.idx 39 1 c9 b8.length b9 .i64 (a5.getD a7.toNat 0) 139 (by kernel_rfl) (by kernel_rfl) (by kernel_rfl) (by kernel_rfl) e6 i3) ?_)
       obtain ⟨e7, u9, H⟩ := lt_out H
       refine EL.of (EO.storeEl hS 2 (Kd.int .i64) 3 c9 b9 b8 rfl (a5.getD a7.toNat 0) e6 i3 0 3 1 0 rfl (ia (IntKind.i64.wrap (a8 + a9))) (IntKind.i64.wrap (a8 + a9)) e7 u9 (Ass.own 3 (Kd.int .i64) c5 c6 c3 :: Ass.own 4 Kd.bool c8 c1 c0 :: Ass.own 3 (Kd.int .i64) (some c9) b9 e7 :: Ass.own 3 (Kd.int .i64) (some d0) c2 a5 :: os) (by kernel_rfl) (by kernel_rfl) (by kernel_rfl) (by kernel_rfl) (by kernel_rfl) (by kernel_rfl) (fun w G vs hr h => set_whole h (by kernel_rfl) rfl) rfl ?_)
       intro w hS
       refine EL.keep [0, 4, 5, 7, 8, 9, 10, 11, 12, 13] [(0, sv (some a4) a3 a2), (4, sv (some c9) b9 b8), (5, sv c8 c1 c0), (7, sv c5 c6 c3), (8, ia a0), (9, ia (a1.getD a0.toNat 0)), (10, ia (IntKind.i64.wrap (a8 + a9))), (11, sv (some d0) c2 a5), (12, ia a7), (13, ia (a5.getD a7.toNat 0))] (by kernel_rfl) ?_
       refine EL.as' [(0, sv (some a4) a3 a2), (4, sv (some c9) b9 e7), (5, sv c8 c1 c0), (7, sv c5 c6 c3), (8, ia a0), (9, ia (a1.getD a0.toNat 0)), (10, ia (IntKind.i64.wrap (a8 + a9))), (11, sv (some d0) c2 a5), (12, ia a7), (13, ia (a5.getD a7.toNat 0))] (by simp only [encS32, sv, u9, List.length_set]) ?_
       refine EL.done (by kernel_rfl) ?_
       refine EQ.code ?_
       refine EW.rg (by kernel_rfl) ?_
       refine EL.quick 2 [0, 4, 5, 8, 9, 10, 11, 12, 140, 141] [(0, sv (some a4) a3 a2), (4, sv (some c9) b9 e7), (5, sv c8 c1 c0), (8, ia a0), (9, ia (a1.getD a0.toNat 0)), (10, ia (IntKind.i64.wrap (a8 + a9))), (11, sv (some d0) c2 a5), (12, ia a7), (140, sv c5 c6 c3), (141, ia (a5.getD a7.toNat 0))] (by kernel_rfl) ?_
       obtain ⟨n6, v0, H⟩ := lt_out H
       refine EL.of (EO.lit hS (Kd.int .i64) 3 39 1 #[(0, ia (a5.getD a7.toNat 0))] [ia (a5.getD a7.toNat 0)] n6 142 (by kernel_rfl) (by kernel_rfl) (by kernel_rfl) (fun _ => (by kernel_rfl)) (by rw [v0]; rfl) (by kernel_rfl) (fun w G hr => (by rw [v0]; exact ⟨[ia (a5.getD a7.toNat 0)], [], rfl, rfl, rfl⟩)) ?_)
       intro t9 w hS
       obtain ⟨v6, H⟩ := ite_in H
       obtain ⟨j2, y2, H⟩ := lt_out H
       refine EL.of (EO.append hS 39 39 3 8 1 (Kd.int .i64) c5 c6 c3 rfl (some ⟨t9, 0, none⟩) 1 n6 (Rd.own 0 3 rfl) j2 y2 (fun o1 o4 => Ass.own 3 (Kd.int .i64) (some ⟨t9, 0, none⟩) 1 n6 :: Ass.own 3 (Kd.int .i64) o1 o4 j2 :: Ass.own 4 Kd.bool c8 c1 c0 :: Ass.own 3 (Kd.int .i64) (some c9) b9 e7 :: Ass.own 3 (Kd.int .i64) (some d0) c2 a5 :: os) 143 (by kernel_rfl) (by kernel_rfl) (by kernel_rfl) (by kernel_rfl) v6 (fun _ _ => rfl) ?_)
       intro o1 o4 w hS
       refine EL.quick 1 [0, 4, 5, 7, 8, 9, 10, 11, 12] [(0, sv (some a4) a3 a2), (4, sv (some c9) b9 e7), (5, sv c8 c1 c0), (7, sv o1 o4 j2), (8, ia a0), (9, ia (a1.getD a0.toNat 0)), (10, ia (IntKind.i64.wrap (a8 + a9))), (11, sv (some d0) c2 a5), (12, ia a7)] (by kernel_rfl) ?_
       refine EL.done (by kernel_rfl) ?_
       refine EQ.pop ?_
       refine EQ.pop ?_
       refine EQ.to ?_
       refine EQ.keep [0, 4, 5, 7, 8, 9, 10, 11, 12] [(0, sv (some a4) a3 a2), (4, sv (some c9) b9 e7), (5, sv c8 c1 c0), (7, sv o1 o4 j2), (8, ia a0), (9, ia (a1.getD a0.toNat 0)), (10, ia (IntKind.i64.wrap (a8 + a9))), (11, sv (some d0) c2 a5), (12, ia a7)] (by kernel_rfl) ?_
       exact fun a ha => ⟨j2, c0, e7, o1, o4, c8, c1, (some c9), b9, ha, (hS.re [4, 4, 4, 4] [4] rfl (sub_cons 0 rfl (sub_tail (sub_self)))), H⟩
      rw [if_neg q8] at H
      refine EW.sq (by kernel_rfl) ?_
      refine EW.rg (by kernel_rfl) ?_
      refine EL.quick 2 [0, 4, 5, 7, 8, 9, 10, 11, 12, 13, 145, 146] [(0, sv (some a4) a3 a2), (4, sv (some c9) b9 b8), (5, sv c8 c1 c0), (7, sv c5 c6 c3), (8, ia a0), (9, ia (a1.getD a0.toNat 0)), (10, ia (IntKind.i64.wrap (a8 + a9))), (11, sv (some d0) c2 a5), (12, ia a7), (13, ia (a5.getD a7.toNat 0)), (145, sv (some c9) b9 b8), (146, ia (a5.getD a7.toNat 0))] (by kernel_rfl) ?_
      refine EL.of (EO.Y (YO.idx 39 1 c9 b8.length b9 .i64 (a5.getD a7.toNat 0) 147 (by kernel_rfl) (by kernel_rfl) (by kernel_rfl) (by kernel_rfl) e6 i3) ?_)
      refine EL.of (EO.Y (YO.loadEl hS (Kd.int .i64) c9 b9 b8 (Rd.own 2 3 rfl) 0 (encI .i64) encI_of (a5.getD a7.toNat 0) e6 i3 3 1 0 1 rfl (ia (b8.getD (a5.getD a7.toNat 0).toNat 0)) 148 (by kernel_rfl) (by kernel_rfl) (by kernel_rfl) (by kernel_rfl)) ?_)
      refine EL.quick 3 [0, 4, 5, 7, 8, 9, 10, 11, 12, 13, 144] [(0, sv (some a4) a3 a2), (4, sv (some c9) b9 b8), (5, sv c8 c1 c0), (7, sv c5 c6 c3), (8, ia a0), (9, ia (a1.getD a0.toNat 0)), (10, ia (IntKind.i64.wrap (a8 + a9))), (11, sv (some d0) c2 a5), (12, ia a7), (13, ia (a5.getD a7.toNat 0)), (144, .bool (!(decide ((b8.getD (a5.getD a7.toNat 0).toNat 0) = (IntKind.i64.wrap (a8 + a9))))))] (by kernel_rfl) ?_
      refine EL.done (by kernel_rfl) ?_
      refine EQ.code ?_
      refine EW.cdQ (b := !(decide ((b8.getD (a5.getD a7.toNat 0).toNat 0) = (IntKind.i64.wrap (a8 + a9))))) ((b8.getD (a5.getD a7.toNat 0).toNat 0) = (IntKind.i64.wrap (a8 + a9))) (false) (by kernel_rfl) (by kernel_rfl) ⟨fun h => (by rw [decide_eq_true h] <;> rfl), fun h => (by rw [decide_eq_false h] <;> rfl)⟩ (fun q9 => ?_) (fun q9 => ?_)
      ·rw [if_pos q9] at H
       refine EW.skip (by kernel_rfl) ?_
       refine EQ.pop ?_
       refine EQ.pop ?_
       refine EQ.to ?_
       refine EQ.keep [0, 4, 5, 7, 8, 9, 10, 11, 12] [(0, sv (some a4) a3 a2), (4, sv (some c9) b9 b8), (5, sv c8 c1 c0), (7, sv c5 c6 c3), (8, ia a0), (9, ia (a1.getD a0.toNat 0)), (10, ia (IntKind.i64.wrap (a8 + a9))), (11, sv (some d0) c2 a5), (12, ia a7)] (by kernel_rfl) ?_
       exact fun a ha => ⟨c3, c0, b8, c5, c6, c8, c1, (some c9), b9, ha, (hS.re [3, 3, 3, 3] [] rfl (sub_cons 0 rfl (sub_tail (sub_self)))), H⟩
      rw [if_neg q9] at H
      refine EW.rg (by kernel_rfl) ?_
      refine EL.quick 2 [0, 4, 5, 7, 8, 9, 10, 11, 12, 151, 152] [(0, sv (some a4) a3 a2), (4, sv (some c9) b9 b8), (5, sv c8 c1 c0), (7, sv c5 c6 c3), (8, ia a0), (9, ia (a1.getD a0.toNat 0)), (10, ia (IntKind.i64.wrap (a8 + a9))), (11, sv (some d0) c2 a5), (12, ia a7), (151, sv c8 c1 c0), (152, ia (a5.getD a7.toNat 0))] (by kernel_rfl) ?_
      obtain ⟨t0, H⟩ := ite_in H
      obtain ⟨i2, rfl⟩ := St.rd_some hS (Rd.own 1 4 rfl) e6 t0
      refine EL.of (EO.Y (YO.idx 84 1 i2 c0.length c1 .i64 (a5.getD a7.toNat 0) 153 (by kernel_rfl) (by kernel_rfl) (by kernel_rfl) (by kernel_rfl) e6 t0) ?_)
      obtain ⟨j3, v1, H⟩ := lt_out H
      refine EL.of (EO.storeEl hS 1 Kd.bool 4 i2 c1 c0 rfl (a5.getD a7.toNat 0) e6 t0 false 4 1 0 rfl (.bool (true)) true j3 v1 (Ass.own 3 (Kd.int .i64) c5 c6 c3 :: Ass.own 4 Kd.bool (some i2) c1 j3 :: Ass.own 3 (Kd.int .i64) (some c9) b9 b8 :: Ass.own 3 (Kd.int .i64) (some d0) c2 a5 :: os) (by kernel_rfl) (by kernel_rfl) (by kernel_rfl) (by kernel_rfl) (by kernel_rfl) (by kernel_rfl) (fun w G vs hr h => set_whole h (by kernel_rfl) rfl) rfl ?_)
      intro w hS
      refine EL.keep [0, 4, 5, 7, 8, 9, 10, 11, 12] [(0, sv (some a4) a3 a2), (4, sv (some c9) b9 b8), (5, sv (some i2) c1 c0), (7, sv c5 c6 c3), (8, ia a0), (9, ia (a1.getD a0.toNat 0)), (10, ia (IntKind.i64.wrap (a8 + a9))), (11, sv (some d0) c2 a5), (12, ia a7)] (by kernel_rfl) ?_
      refine EL.as' [(0, sv (some a4) a3 a2), (4, sv (some c9) b9 b8), (5, sv (some i2) c1 j3), (7, sv c5 c6 c3), (8, ia a0), (9, ia (a1.getD a0.toNat 0)), (10, ia (IntKind.i64.wrap (a8 + a9))), (11, sv (some d0) c2 a5), (12, ia a7)] (by simp only [encS32, sv, v1, List.length_set]) ?_
      refine EL.done (by kernel_rfl) ?_
      refine EQ.pop ?_
      refine EQ.pop ?_
      refine EQ.to ?_
      refine EQ.keep [0, 4, 5, 7, 8, 9, 10, 11, 12] [(0, sv (some a4) a3 a2), (4, sv (some c9) b9 b8), (5, sv (some i2) c1 j3), (7, sv c5 c6 c3), (8, ia a0), (9, ia (a1.getD a0.toNat 0)), (10, ia (IntKind.i64.wrap (a8 + a9))), (11, sv (some d0) c2 a5), (12, ia a7)] (by kernel_rfl) ?_
      exact fun a ha => ⟨c3, j3, b8, c5, c6, (some i2), c1, (some c9), b9, ha, (hS.re [3, 3, 3, 3] [] rfl (sub_cons 0 rfl (sub_tail (sub_self)))), H⟩
     obtain ⟨f9, g0, g1, j9, m7, m0, m8, m1, m9, ha, hS, H⟩ := hI
     rw [x7] at H
     (try dsimp only at H)
     refine EW.at ?_ a ha
     clear ha a
     refine EW.rg (by kernel_rfl) ?_
     refine EL.quick 3 [0, 4, 5, 7, 8, 9, 10, 11, 12] [(0, sv (some a4) a3 a2), (4, sv m1 m9 g1), (5, sv m0 m8 g0), (7, sv j9 m7 f9), (8, ia a0), (9, ia (a1.getD a0.toNat 0)), (10, ia (IntKind.i64.wrap (a8 + a9))), (11, sv e0 c2 a5), (12, ia (IntKind.i64.wrap (a7 + 1)))] (by kernel_rfl) ?_
     refine EL.done (by kernel_rfl) ?_
     refine EQ.to ?_
     refine EQ.keep [0, 4, 5, 7, 8, 9, 10, 11, 12] [(0, sv (some a4) a3 a2), (4, sv m1 m9 g1), (5, sv m0 m8 g0), (7, sv j9 m7 f9), (8, ia a0), (9, ia (a1.getD a0.toNat 0)), (10, ia (IntKind.i64.wrap (a8 + a9))), (11, sv e0 c2 a5), (12, ia (IntKind.i64.wrap (a7 + 1)))] (by kernel_rfl) ?_
     exact fun a ha => ⟨n, Nat.lt_succ_self n, f9, g0, g1, IntKind.i64.wrap (a7 + 1), j9, m7, m0, m8, m1, m9, ha, (hS.re [3, 3, 3, 3] [] rfl (sub_cons 0 rfl (sub_tail (sub_self)))), H⟩
    rw [if_neg n2] at H
    refine EW.exit (id := 4) (by kernel_rfl) ?_
    refine EQ.exitCode ?_
    refine EQ.exitTo ?_
    refine EQ.exitHere ?_
    refine EQ.pop ?_
    refine EQ.to ?_
    refine EQ.keep [0, 4, 5, 7, 8] [(0, sv (some a4) a3 a2), (4, sv d5 b9 b8), (5, sv c8 c1 c0), (7, sv c5 c6 c3), (8, ia a0)] (by kernel_rfl) ?_
    exact fun a ha => ⟨c3, c0, b8, c5, c6, c8, c1, d5, b9, ha, (hS.re [2, 2, 2] [3] rfl (sub_cons 0 rfl (sub_tail (sub_self)))), H⟩
   obtain ⟨f6, f7, f8, j6, m4, j7, m5, j8, m6, ha, hS, H⟩ := hI
   rw [x3] at H
   (try dsimp only at H)
   refine EW.at ?_ a ha
   clear ha a
   refine EW.rg (by kernel_rfl) ?_
   refine EL.quick 3 [0, 4, 5, 7, 8] [(0, sv c4 a3 a2), (4, sv j8 m6 f8), (5, sv j7 m5 f7), (7, sv j6 m4 f6), (8, ia (IntKind.i64.wrap (a0 + 1)))] (by kernel_rfl) ?_
   refine EL.done (by kernel_rfl) ?_
   refine EQ.to ?_
   refine EQ.keep [0, 4, 5, 7, 8] [(0, sv c4 a3 a2), (4, sv j8 m6 f8), (5, sv j7 m5 f7), (7, sv j6 m4 f6), (8, ia (IntKind.i64.wrap (a0 + 1)))] (by kernel_rfl) ?_
   exact fun a ha => ⟨n, Nat.lt_succ_self n, f6, f7, f8, IntKind.i64.wrap (a0 + 1), j6, m4, j7, m5, j8, m6, ha, (hS.re [2, 2, 2] [] rfl (sub_cons 0 rfl (sub_tail (sub_self)))), H⟩
  rw [if_neg n1] at H
  refine EW.exit (id := 2) (by kernel_rfl) ?_
  refine EQ.exitCode ?_
  refine EQ.exitTo ?_
  refine EQ.exitHere ?_
  refine EQ.to ?_
  refine EQ.keep [4, 5] [(4, sv g3 b3 a6), (5, sv b7 b0 b2)] (by kernel_rfl) ?_
  exact fun a ha => ⟨a1, b2, a6, g8, b4, b7, b0, g3, b3, ha, (hS.re [2, 2, 2] [] rfl (sub_cons 0 rfl (sub_tail (sub_self)))), H⟩
 obtain ⟨p1, g6, g7, t3, t6, j4, m2, j5, m3, ha, hS, H⟩ := hI
 rw [x2] at H
 (try dsimp only at H)
 refine EW.at ?_ a ha
 clear ha a
 refine EW.sq (by kernel_rfl) ?_
 refine EW.rg (by kernel_rfl) ?_
 refine EL.quick 4 [2, 3] [(2, sv j5 m3 g7), (3, sv j4 m2 g6)] (by kernel_rfl) ?_
 refine EL.done (by kernel_rfl) ?_
 refine EQ.code ?_
 refine EW.ret (by kernel_rfl) ?_
 simp only [encS32, sv, Option.some.injEq, Prod.mk.injEq] at H
 obtain ⟨rfl, rfl⟩ := H
 exact EQ.leave (.tuple #[sv j5 m3 g7, sv j4 m2 g6]) (by kernel_rfl) ⟨_, rfl, j5, m3, j4, m2, rfl, (hS.re [1, 2] [2] rfl (sub_self))⟩

/-! ### confidant/confidantref5.Func: function 17 -/
def confidantref5_Func.l1 (K : Nat) (a0 : List S32) (a8 : List Bool) : Nat → Int → Option (Int × Int)
 | 0, _ => none
 | n + 1, a4 => if a4 < (a0.length : Int) then (if 0 ≤ a4 then (if a4 < (a8.length : Int) then (if (a8.getD a4.toNat false) = true then (some (a4, 24)) else (confidantref5_Func.l1 K a0 a8 n (IntKind.i64.wrap (a4 + 1)))) else none) else none) else (some (0, 0))
def confidantref5_Func.l0 (K : Nat) (a0 : List S32) (a5 : Int) (a6 : Int) (a7 : Int) (b3 : Option (Int × Int)) : Nat → Int → Option (Int × Int)
 | 0, _ => none
 | n + 1, a3 => if a3 < (a0.length : Int) then (if 0 ≤ a3 then (b1 (confidantref5_within.f K ((a0.getD a3.toNat zS32).f0) ((a0.getD a3.toNat zS32).f1) (a0.length : Int) a5 a6 a7) fun (b6 : Bool) => (if b6 = true then (confidantref5_Func.l0 K a0 a5 a6 a7 b3 n (IntKind.i64.wrap (a3 + 1))) else (some (a3, 24)))) else none) else (b3)
def confidantref5_Func.f (K : Nat) (a0 : List S32) (a5 : Int) (a6 : Int) (a7 : Int) : Option (Int × Int) := if (a0.length : Int) > 512 then (some (0, 22)) else (if (a0.length : Int) = 0 then (some (0, 24)) else (lt (b2 (confidantref5_walk.f K a0) fun (c8 : List Int) (a8 : List Bool) => (confidantref5_Func.l1 K a0 a8 K 0)) fun b3 => (confidantref5_Func.l0 K a0 a5 a6 a7 b3 K 0)))
set_option maxRecDepth 100000 in
theorem confidantref5_Func.calls {K : Nat} {a0 : List S32} {a5 : Int} {a6 : Int} {a7 : Int} {a2 : Option Addr} {a1 : Nat} {b7 : Int} {b8 : Int} {B w : World} {os : List Ass} {rs : List Ro} (H : confidantref5_Func.f K a0 a5 a6 a7 = some (b7, b8)) (hS : St B w (os) (Ro.sl kS32 a2 a1 a0 :: rs)) :
  Calls Try.prog 17 [sv a2 a1 a0, ia a5, ia a6, ia a7].toArray w (fun en w' => ∃ v, en = .returned v ∧ v = .tuple #[ia b7, ia b8] ∧ St B w' (os) (Ro.sl kS32 a2 a1 a0 :: rs)) := by
 unfold confidantref5_Func.f at H
 refine calls_of_EW (args := [sv a2 a1 a0, ia a5, ia a6, ia a7]) (c := Cd17) 54 Try.func17 (by kernel_rfl) (by kernel_rfl) (by kernel_rfl) ?_
 refine EW.sq (by kernel_rfl) ?_
 refine EW.rg (by kernel_rfl) ?_
 refine EL.quick 2 [0, 1, 2, 3] [(0, sv a2 a1 a0), (1, ia a5), (2, ia a6), (3, ia a7)] (by kernel_rfl) ?_
 refine EL.done (by kernel_rfl) ?_
 refine EQ.code ?_
 refine EW.sq (by kernel_rfl) ?_
 refine EW.sq (by kernel_rfl) ?_
 refine EW.rg (by kernel_rfl) ?_
 refine EL.quick 3 [0, 1, 2, 3, 16] [(0, sv a2 a1 a0), (1, ia a5), (2, ia a6), (3, ia a7), (16, .bool (decide ((a0.length : Int) > 512)))] (by kernel_rfl) ?_
 refine EL.done (by kernel_rfl) ?_
 refine EQ.code ?_
 refine EW.cdP ((a0.length : Int) > 512) (by kernel_rfl) (by kernel_rfl) (fun c0 => ?_) (fun c0 => ?_)
 ·rw [if_pos c0] at H
  refine EW.sq (by kernel_rfl) ?_
  refine EW.rg (by kernel_rfl) ?_
  refine EL.quick 2 [8, 9] [(8, ia 0), (9, ia 22)] (by kernel_rfl) ?_
  refine EL.done (by kernel_rfl) ?_
  refine EQ.code ?_
  refine EW.ret (by kernel_rfl) ?_
  refine EQ.ret ?_
  simp only [encS32, sv, Option.some.injEq, Prod.mk.injEq] at H
  obtain ⟨rfl, rfl⟩ := H
  exact EQ.leave (.tuple #[ia 0, ia 22]) (by kernel_rfl) ⟨_, rfl, rfl, (hS.re [] [] rfl (sub_self))⟩
 rw [if_neg c0] at H
 refine EW.skip (by kernel_rfl) ?_
 refine EQ.code ?_
 refine EW.sq (by kernel_rfl) ?_
 refine EW.sq (by kernel_rfl) ?_
 refine EW.rg (by kernel_rfl) ?_
 refine EL.quick 3 [0, 1, 2, 3, 19] [(0, sv a2 a1 a0), (1, ia a5), (2, ia a6), (3, ia a7), (19, .bool (decide ((a0.length : Int) = 0)))] (by kernel_rfl) ?_
 refine EL.done (by kernel_rfl) ?_
 refine EQ.code ?_
 refine EW.cdP ((a0.length : Int) = 0) (by kernel_rfl) (by kernel_rfl) (fun c1 => ?_) (fun c1 => ?_)
 ·rw [if_pos c1] at H
  refine EW.sq (by kernel_rfl) ?_
  refine EW.rg (by kernel_rfl) ?_
  refine EL.quick 2 [8, 9] [(8, ia 0), (9, ia 24)] (by kernel_rfl) ?_
  refine EL.done (by kernel_rfl) ?_
  refine EQ.code ?_
  refine EW.ret (by kernel_rfl) ?_
  refine EQ.ret ?_
  simp only [encS32, sv, Option.some.injEq, Prod.mk.injEq] at H
  obtain ⟨rfl, rfl⟩ := H
  exact EQ.leave (.tuple #[ia 0, ia 24]) (by kernel_rfl) ⟨_, rfl, rfl, (hS.re [] [] rfl (sub_self))⟩
 rw [if_neg c1] at H
 refine EW.skip (by kernel_rfl) ?_
 refine EQ.code ?_
 obtain ⟨b3, d3, H⟩ := lt_out H
 refine EW.ct (fun a w => Sat 54 [(0, sv a2 a1 a0)] a ∧ St B w (os) (Ro.sl kS32 a2 a1 a0 :: rs) ∧ b3 = some (b7, b8)) (by kernel_rfl) ?_ (fun a w hI => ?_)
 ·refine EW.sq (by kernel_rfl) ?_
  refine EW.rg (by kernel_rfl) ?_
  refine EL.quick 1 [0, 1, 2, 3, 10] [(0, sv a2 a1 a0), (1, ia a5), (2, ia a6), (3, ia a7), (10, ia 0)] (by kernel_rfl) ?_
  refine EL.done (by kernel_rfl) ?_
  refine EQ.code ?_
  refine EW.bl 0 (by kernel_rfl) ?_
  refine EW.lp (fun n a w => ∃ a3 : Int, Sat 54 [(0, sv a2 a1 a0), (1, ia a5), (2, ia a6), (3, ia a7), (10, ia a3)] a ∧ St B w (os) (Ro.sl kS32 a2 a1 a0 :: rs) ∧ confidantref5_Func.l0 K a0 a5 a6 a7 b3 n a3 = some (b7, b8)) K (by kernel_rfl) ?_ (fun n a w hI => ?_)
  ·refine EQ.keep [0, 1, 2, 3, 10] [(0, sv a2 a1 a0), (1, ia a5), (2, ia a6), (3, ia a7), (10, ia 0)] (by kernel_rfl) ?_
   exact fun a ha => ⟨0, ha, (hS.re [] [] rfl (sub_cons 0 rfl (sub_tail (sub_self)))), H⟩
  obtain ⟨a3, ha, hS, H⟩ := hI
  obtain _ | n := n
  ·simp [confidantref5_Func.l0] at H
  rw [confidantref5_Func.l0.eq_2] at H
  refine EW.at ?_ a ha
  clear ha a
  refine EW.sq (by kernel_rfl) ?_
  refine EW.sq (by kernel_rfl) ?_
  refine EW.rg (by kernel_rfl) ?_
  refine EL.quick 4 [0, 1, 2, 3, 10, 23] [(0, sv a2 a1 a0), (1, ia a5), (2, ia a6), (3, ia a7), (10, ia a3), (23, .bool (decide (a3 < (a0.length : Int))))] (by kernel_rfl) ?_
  refine EL.done (by kernel_rfl) ?_
  refine EQ.code ?_
  refine EW.cdP (a3 < (a0.length : Int)) (by kernel_rfl) (by kernel_rfl) (fun b5 => ?_) (fun b5 => ?_)
  ·rw [if_pos b5] at H
   refine EW.skip (by kernel_rfl) ?_
   refine EQ.code ?_
   refine EW.sq (by kernel_rfl) ?_
   refine EW.bl 1 (by kernel_rfl) ?_
   refine EW.sq (by kernel_rfl) ?_
   refine EW.rg (by kernel_rfl) ?_
   refine EL.quick 2 [0, 1, 2, 3, 10, 26, 27] [(0, sv a2 a1 a0), (1, ia a5), (2, ia a6), (3, ia a7), (10, ia a3), (26, sv a2 a1 a0), (27, ia a3)] (by kernel_rfl) ?_
   obtain ⟨c2, H⟩ := ite_in H
   obtain ⟨b4, rfl⟩ := St.rd_some hS (Rd.ro 0 rfl) c2 b5
   refine EL.of (EO.Y (YO.idx 29 2 b4 a0.length a1 .i64 a3 28 (by kernel_rfl) (by kernel_rfl) (by kernel_rfl) (by kernel_rfl) c2 b5) ?_)
   refine EL.of (EO.Y (YO.loadEl hS kS32 b4 a1 a0 (Rd.ro 0 rfl) zS32 encS32 encS32_of a3 c2 b5 32 2 0 2 rfl (ag [ia ((a0.getD a3.toNat zS32).f0), ib ((a0.getD a3.toNat zS32).f1)]) 29 (by kernel_rfl) (by kernel_rfl) (by kernel_rfl) (by kernel_rfl)) ?_)
   refine EL.quick 5 [0, 1, 2, 3, 10, 29, 31, 32, 33, 34] [(0, sv (some b4) a1 a0), (1, ia a5), (2, ia a6), (3, ia a7), (10, ia a3), (29, ag [ia ((a0.getD a3.toNat zS32).f0), ib ((a0.getD a3.toNat zS32).f1)]), (31, ia (a0.length : Int)), (32, ia a5), (33, ia a6), (34, ia a7)] (by kernel_rfl) ?_
   obtain ⟨b6, d1, H⟩ := b1_out H
   have hq := confidantref5_within.calls d1 hS
   refine EL.of (EO.callD 44 [ag [ia ((a0.getD a3.toNat zS32).f0), ib ((a0.getD a3.toNat zS32).f1)], ia (a0.length : Int), ia a5, ia a6, ia a7] _ 35 (by kernel_rfl) (by kernel_rfl) (by kernel_rfl) hq ?_)
   rintro v w ⟨rfl, hS⟩
   refine EL.quick 1 [0, 1, 2, 3, 10, 36] [(0, sv (some b4) a1 a0), (1, ia a5), (2, ia a6), (3, ia a7), (10, ia a3), (36, .bool (!(b6)))] (by kernel_rfl) ?_
   refine EL.done (by kernel_rfl) ?_
   refine EQ.code ?_
   refine EW.cdQ (b := !(b6)) (b6 = true) (false) (by kernel_rfl) (by kernel_rfl) ⟨fun h => (by rw [h] <;> rfl), fun h => (by rw [Bool.eq_false_iff.2 h] <;> rfl)⟩ (fun c3 => ?_) (fun c3 => ?_)
   ·rw [if_pos c3] at H
    refine EW.skip (by kernel_rfl) ?_
    refine EQ.pop ?_
    refine EQ.code ?_
    refine EW.rg (by kernel_rfl) ?_
    refine EL.quick 3 [0, 1, 2, 3, 10] [(0, sv (some b4) a1 a0), (1, ia a5), (2, ia a6), (3, ia a7), (10, ia (IntKind.i64.wrap (a3 + 1)))] (by kernel_rfl) ?_
    refine EL.done (by kernel_rfl) ?_
    refine EQ.to ?_
    refine EQ.keep [0, 1, 2, 3, 10] [(0, sv (some b4) a1 a0), (1, ia a5), (2, ia a6), (3, ia a7), (10, ia (IntKind.i64.wrap (a3 + 1)))] (by kernel_rfl) ?_
    exact fun a ha => ⟨n, Nat.lt_succ_self n, IntKind.i64.wrap (a3 + 1), ha, (hS.re [] [] rfl (sub_cons 0 rfl (sub_tail (sub_self)))), H⟩
   rw [if_neg c3] at H
   refine EW.sq (by kernel_rfl) ?_
   refine EW.rg (by kernel_rfl) ?_
   refine EL.quick 3 [8, 9] [(8, ia a3), (9, ia 24)] (by kernel_rfl) ?_
   refine EL.done (by kernel_rfl) ?_
   refine EQ.code ?_
   refine EW.ret (by kernel_rfl) ?_
   refine EQ.ret ?_
   refine EQ.ret ?_
   refine EQ.ret ?_
   refine EQ.ret ?_
   refine EQ.ret ?_
   simp only [encS32, sv, Option.some.injEq, Prod.mk.injEq] at H
   obtain ⟨rfl, rfl⟩ := H
   exact EQ.leave (.tuple #[ia a3, ia 24]) (by kernel_rfl) ⟨_, rfl, rfl, (hS.re [] [] rfl (sub_self))⟩
  rw [if_neg b5] at H
  refine EW.exit (id := 0) (by kernel_rfl) ?_
  refine EQ.exitCode ?_
  refine EQ.exitTo ?_
  refine EQ.exitHere ?_
  refine EQ.to ?_
  refine EQ.keep [0] [(0, sv a2 a1 a0)] (by kernel_rfl) ?_
  exact fun a ha => ⟨ha, (hS.re [] [] rfl (sub_cons 0 rfl (sub_tail (sub_self)))), H⟩
 obtain ⟨ha, hS, H⟩ := hI
 rw [d3] at H
 (try dsimp only at H)
 refine EW.at ?_ a ha
 clear ha a
 refine EW.sq (by kernel_rfl) ?_
 refine EW.rg (by kernel_rfl) ?_
 refine EL.quick 1 [0, 39] [(0, sv a2 a1 a0), (39, sv a2 a1 a0)] (by kernel_rfl) ?_
 have hS : St B _ (os) (Ro.sl kS32 a2 a1 a0 :: rs) := hS.re [] [] rfl (sub_cons 0 rfl (sub_tail (sub_self)))
 obtain ⟨c8, a8, d2, H⟩ := b2_out H
 have hq := confidantref5_walk.calls d2 hS
 refine EL.of (EO.callD 45 [sv a2 a1 a0] _ 40 (by kernel_rfl) (by kernel_rfl) (by kernel_rfl) hq ?_)
 rintro v w ⟨c9, d0, b0, a9, rfl, hS⟩
 refine EL.quick 5 [0, 12] [(0, sv a2 a1 a0), (12, sv b0 a9 a8)] (by kernel_rfl) ?_
 refine EL.done (by kernel_rfl) ?_
 refine EQ.code ?_
 refine EW.sq (by kernel_rfl) ?_
 refine EW.sq (by kernel_rfl) ?_
 refine EW.rg (by kernel_rfl) ?_
 refine EL.quick 1 [0, 12, 13] [(0, sv a2 a1 a0), (12, sv b0 a9 a8), (13, ia 0)] (by kernel_rfl) ?_
 refine EL.done (by kernel_rfl) ?_
 refine EQ.code ?_
 refine EW.bl 2 (by kernel_rfl) ?_
 refine EW.lp (fun n a w => ∃ a4 : Int, Sat 54 [(0, sv a2 a1 a0), (12, sv b0 a9 a8), (13, ia a4)] a ∧ St B w (Ass.own 3 (Kd.int .i64) c9 d0 c8 :: Ass.own 4 Kd.bool b0 a9 a8 :: os) (Ro.sl kS32 a2 a1 a0 :: rs) ∧ confidantref5_Func.l1 K a0 a8 n a4 = some (b7, b8)) K (by kernel_rfl) ?_ (fun n a w hI => ?_)
 ·refine EQ.keep [0, 12, 13] [(0, sv a2 a1 a0), (12, sv b0 a9 a8), (13, ia 0)] (by kernel_rfl) ?_
  exact fun a ha => ⟨0, ha, (hS.re [1, 1] [] rfl (sub_cons 0 rfl (sub_tail (sub_self)))), H⟩
 obtain ⟨a4, ha, hS, H⟩ := hI
 obtain _ | n := n
 ·simp [confidantref5_Func.l1] at H
 rw [confidantref5_Func.l1.eq_2] at H
 refine EW.at ?_ a ha
 clear ha a
 refine EW.sq (by kernel_rfl) ?_
 refine EW.sq (by kernel_rfl) ?_
 refine EW.rg (by kernel_rfl) ?_
 refine EL.quick 4 [0, 12, 13, 46] [(0, sv a2 a1 a0), (12, sv b0 a9 a8), (13, ia a4), (46, .bool (decide (a4 < (a0.length : Int))))] (by kernel_rfl) ?_
 refine EL.done (by kernel_rfl) ?_
 refine EQ.code ?_
 refine EW.cdP (a4 < (a0.length : Int)) (by kernel_rfl) (by kernel_rfl) (fun c4 => ?_) (fun c4 => ?_)
 ·rw [if_pos c4] at H
  refine EW.skip (by kernel_rfl) ?_
  refine EQ.code ?_
  refine EW.sq (by kernel_rfl) ?_
  refine EW.bl 3 (by kernel_rfl) ?_
  refine EW.sq (by kernel_rfl) ?_
  refine EW.rg (by kernel_rfl) ?_
  refine EL.quick 2 [0, 12, 13, 49, 50] [(0, sv a2 a1 a0), (12, sv b0 a9 a8), (13, ia a4), (49, sv b0 a9 a8), (50, ia a4)] (by kernel_rfl) ?_
  obtain ⟨c5, H⟩ := ite_in H
  obtain ⟨c6, H⟩ := ite_in H
  obtain ⟨b9, rfl⟩ := St.rd_some hS (Rd.own 1 4 rfl) c5 c6
  refine EL.of (EO.Y (YO.idx 84 1 b9 a8.length a9 .i64 a4 51 (by kernel_rfl) (by kernel_rfl) (by kernel_rfl) (by kernel_rfl) c5 c6) ?_)
  refine EL.of (EO.Y (YO.loadEl hS Kd.bool b9 a9 a8 (Rd.own 1 4 rfl) false encB encB_of a4 c5 c6 4 1 0 1 rfl (.bool ((a8.getD a4.toNat false))) 52 (by kernel_rfl) (by kernel_rfl) (by kernel_rfl) (by kernel_rfl)) ?_)
  refine EL.done (by kernel_rfl) ?_
  refine EQ.code ?_
  refine EW.cdP' ((a8.getD a4.toNat false)) (by kernel_rfl) (by kernel_rfl) (fun c7 => ?_) (fun c7 => ?_)
  ·rw [if_pos c7] at H
   refine EW.sq (by kernel_rfl) ?_
   refine EW.rg (by kernel_rfl) ?_
   refine EL.quick 3 [8, 9] [(8, ia a4), (9, ia 24)] (by kernel_rfl) ?_
   refine EL.done (by kernel_rfl) ?_
   refine EQ.code ?_
   refine EW.ret (by kernel_rfl) ?_
   refine EQ.ret ?_
   refine EQ.ret ?_
   refine EQ.ret ?_
   refine EQ.ret ?_
   refine EQ.ret ?_
   simp only [encS32, sv, Option.some.injEq, Prod.mk.injEq] at H
   obtain ⟨rfl, rfl⟩ := H
   exact EQ.leave (.tuple #[ia a4, ia 24]) (by kernel_rfl) ⟨_, rfl, rfl, (hS.re [] [0, 0] rfl (sub_self))⟩
  rw [if_neg c7] at H
  refine EW.skip (by kernel_rfl) ?_
  refine EQ.pop ?_
  refine EQ.code ?_
  refine EW.rg (by kernel_rfl) ?_
  refine EL.quick 3 [0, 12, 13] [(0, sv a2 a1 a0), (12, sv (some b9) a9 a8), (13, ia (IntKind.i64.wrap (a4 + 1)))] (by kernel_rfl) ?_
  refine EL.done (by kernel_rfl) ?_
  refine EQ.to ?_
  refine EQ.keep [0, 12, 13] [(0, sv a2 a1 a0), (12, sv (some b9) a9 a8), (13, ia (IntKind.i64.wrap (a4 + 1)))] (by kernel_rfl) ?_
  exact fun a ha => ⟨n, Nat.lt_succ_self n, IntKind.i64.wrap (a4 + 1), ha, (hS.re [1, 1] [] rfl (sub_cons 0 rfl (sub_tail (sub_self)))), H⟩
 rw [if_neg c4] at H
 refine EW.exit (id := 2) (by kernel_rfl) ?_
 refine EQ.exitCode ?_
 refine EQ.exitTo ?_
 refine EQ.exitHere ?_
 refine EQ.code ?_
 refine EW.sq (by kernel_rfl) ?_
 refine EW.rg (by kernel_rfl) ?_
 refine EL.quick 2 [8, 9] [(8, ia 0), (9, ia 0)] (by kernel_rfl) ?_
 refine EL.done (by kernel_rfl) ?_
 refine EQ.code ?_
 refine EW.ret (by kernel_rfl) ?_
 simp only [encS32, sv, Option.some.injEq, Prod.mk.injEq] at H
 obtain ⟨rfl, rfl⟩ := H
 exact EQ.leave (.tuple #[ia 0, ia 0]) (by kernel_rfl) ⟨_, rfl, rfl, (hS.re [] [0, 0] rfl (sub_self))⟩

/-! ### confidant/confidantref5.Depths: function 20 -/
def confidantref5_Depths.f (K : Nat) (a0 : List S32) : Option (List Int) := b2 (confidantref5_Func.f K a0 2147483648 2147483648 2147483648) fun (b4 : Int) (a3 : Int) => (if a3 = 0 then (b2 (confidantref5_walk.f K a0) fun (a4 : List Int) (b5 : List Bool) => (some a4)) else (some ([] : List Int)))
set_option maxRecDepth 100000 in
theorem confidantref5_Depths.calls {K : Nat} {a0 : List S32} {a1 : Option Addr} {a2 : Nat} {a8 : List Int} {B w : World} {os : List Ass} {rs : List Ro} (H : confidantref5_Depths.f K a0 = some a8) (hS : St B w (os) (Ro.sl kS32 a1 a2 a0 :: rs)) :
  Calls Try.prog 20 [sv a1 a2 a0].toArray w (fun en w' => ∃ v, en = .returned v ∧ ∃ a9 : Option Addr, ∃ b0 : Nat, v = sv a9 b0 a8 ∧ St B w' (Ass.own 3 (Kd.int .i64) a9 b0 a8 :: os) (Ro.sl kS32 a1 a2 a0 :: rs)) := by
 unfold confidantref5_Depths.f at H
 refine calls_of_EW (args := [sv a1 a2 a0]) (c := Cd20) 20 Try.func20 (by kernel_rfl) (by kernel_rfl) (by kernel_rfl) ?_
 refine EW.sq (by kernel_rfl) ?_
 refine EW.rg (by kernel_rfl) ?_
 refine EL.quick 1 [0] [(0, sv a1 a2 a0)] (by kernel_rfl) ?_
 refine EL.done (by kernel_rfl) ?_
 refine EQ.code ?_
 refine EW.sq (by kernel_rfl) ?_
 refine EW.sq (by kernel_rfl) ?_
 refine EW.rg (by kernel_rfl) ?_
 refine EL.quick 1 [0, 8] [(0, sv a1 a2 a0), (8, sv a1 a2 a0)] (by kernel_rfl) ?_
 have hS : St B _ (os) (Ro.sl kS32 a1 a2 a0 :: rs) := hS.re [] [] rfl (sub_cons 0 rfl (sub_tail (sub_self)))
 obtain ⟨b4, a3, b1, H⟩ := b2_out H
 have hq := confidantref5_Func.calls b1 hS
 refine EL.of (EO.callD 17 [sv a1 a2 a0, ia 2147483648, ia 2147483648, ia 2147483648] _ 9 (by kernel_rfl) (by kernel_rfl) (by kernel_rfl) hq ?_)
 rintro v w ⟨rfl, hS⟩
 refine EL.quick 5 [0, 4] [(0, sv a1 a2 a0), (4, ia a3)] (by kernel_rfl) ?_
 refine EL.done (by kernel_rfl) ?_
 refine EQ.code ?_
 refine EW.sq (by kernel_rfl) ?_
 refine EW.rg (by kernel_rfl) ?_
 refine EL.quick 2 [0, 13] [(0, sv a1 a2 a0), (13, .bool (!(decide (a3 = 0))))] (by kernel_rfl) ?_
 refine EL.done (by kernel_rfl) ?_
 refine EQ.code ?_
 refine EW.cdQ (b := !(decide (a3 = 0))) (a3 = 0) (false) (by kernel_rfl) (by kernel_rfl) ⟨fun h => (by rw [decide_eq_true h] <;> rfl), fun h => (by rw [decide_eq_false h] <;> rfl)⟩ (fun a7 => ?_) (fun a7 => ?_)
 ·rw [if_pos a7] at H
  refine EW.skip (by kernel_rfl) ?_
  refine EQ.code ?_
  refine EW.sq (by kernel_rfl) ?_
  refine EW.rg (by kernel_rfl) ?_
  refine EL.quick 1 [15] [(15, sv a1 a2 a0)] (by kernel_rfl) ?_
  have hS : St B _ (os) (Ro.sl kS32 a1 a2 a0 :: rs) := hS.re [] [] rfl (sub_cons 0 rfl (sub_tail (sub_self)))
  obtain ⟨a4, b5, b3, H⟩ := b2_out H
  have hq := confidantref5_walk.calls b3 hS
  refine EL.of (EO.callD 45 [sv a1 a2 a0] _ 16 (by kernel_rfl) (by kernel_rfl) (by kernel_rfl) hq ?_)
  rintro v w ⟨a5, a6, b6, b7, rfl, hS⟩
  refine EL.quick 5 [5] [(5, sv a5 a6 a4)] (by kernel_rfl) ?_
  refine EL.done (by kernel_rfl) ?_
  refine EQ.code ?_
  refine EW.sq (by kernel_rfl) ?_
  refine EW.rg (by kernel_rfl) ?_
  refine EL.quick 2 [2] [(2, sv a5 a6 a4)] (by kernel_rfl) ?_
  refine EL.done (by kernel_rfl) ?_
  refine EQ.code ?_
  refine EW.ret (by kernel_rfl) ?_
  obtain rfl := Option.some.inj H
  exact EQ.leave (sv a5 a6 a4) (by kernel_rfl) ⟨_, rfl, a5, a6, rfl, (hS.re [0] [1] rfl (sub_self))⟩
 rw [if_neg a7] at H
 refine EW.sq (by kernel_rfl) ?_
 refine EW.rg (by kernel_rfl) ?_
 refine EL.quick 1 [2] [(2, sv none 0 ([] : List Int))] (by kernel_rfl) ?_
 refine EL.done (by kernel_rfl) ?_
 refine EQ.code ?_
 refine EW.ret (by kernel_rfl) ?_
 refine EQ.ret ?_
 have hS := St.nilO hS 3 (Kd.int .i64)
 obtain rfl := Option.some.inj H
 exact EQ.leave (sv none 0 ([] : List Int)) (by kernel_rfl) ⟨_, rfl, none, 0, rfl, (hS.re [0] [] rfl (sub_self))⟩

/-! ### confidant/confidanthelp.Ints: function 18 -/
def confidanthelp_Ints.l0 (K : Nat) (a0 : List Int) (a1 : List Int) : Nat → Int → Option Bool
 | 0, _ => none
 | n + 1, a2 => if a2 < (a0.length : Int) then (if 0 ≤ a2 then (if a2 < (a1.length : Int) then (if (a0.getD a2.toNat 0) = (a1.getD a2.toNat 0) then (confidanthelp_Ints.l0 K a0 a1 n (IntKind.i64.wrap (a2 + 1))) else (some false)) else none) else none) else (some true)
def confidanthelp_Ints.f (K : Nat) (a0 : List Int) (a1 : List Int) : Option Bool := if (a0.length : Int) = (a1.length : Int) then (confidanthelp_Ints.l0 K a0 a1 K 0) else (some false)
set_option maxRecDepth 100000 in
theorem confidanthelp_Ints.calls {K : Nat} {a0 : List Int} {a1 : List Int} {a5 : Option Addr} {a3 : Nat} {a6 : Option Addr} {a4 : Nat} {b4 : Bool} {B w : World} {os : List Ass} {rs : List Ro} (H : confidanthelp_Ints.f K a0 a1 = some b4) (hS : St B w (os) (Ro.sl (Kd.int .i64) a5 a3 a0 :: Ro.sl (Kd.int .i64) a6 a4 a1 :: rs)) :
  Calls Try.prog 18 [sv a5 a3 a0, sv a6 a4 a1].toArray w (fun en w' => ∃ v, en = .returned v ∧ v = .bool (b4) ∧ St B w' (os) (Ro.sl (Kd.int .i64) a5 a3 a0 :: Ro.sl (Kd.int .i64) a6 a4 a1 :: rs)) := by
 unfold confidanthelp_Ints.f at H
 refine calls_of_EW (args := [sv a5 a3 a0, sv a6 a4 a1]) (c := Cd18) 26 Try.func18 (by kernel_rfl) (by kernel_rfl) (by kernel_rfl) ?_
 refine EW.sq (by kernel_rfl) ?_
 refine EW.rg (by kernel_rfl) ?_
 refine EL.quick 1 [0, 1] [(0, sv a5 a3 a0), (1, sv a6 a4 a1)] (by kernel_rfl) ?_
 refine EL.done (by kernel_rfl) ?_
 refine EQ.code ?_
 refine EW.sq (by kernel_rfl) ?_
 refine EW.sq (by kernel_rfl) ?_
 refine EW.rg (by kernel_rfl) ?_
 refine EL.quick 5 [0, 1, 10] [(0, sv a5 a3 a0), (1, sv a6 a4 a1), (10, .bool (!(decide ((a0.length : Int) = (a1.length : Int)))))] (by kernel_rfl) ?_
 refine EL.done (by kernel_rfl) ?_
 refine EQ.code ?_
 refine EW.cdQ (b := !(decide ((a0.length : Int) = (a1.length : Int)))) ((a0.length : Int) = (a1.length : Int)) (false) (by kernel_rfl) (by kernel_rfl) ⟨fun h => (by rw [decide_eq_true h] <;> rfl), fun h => (by rw [decide_eq_false h] <;> rfl)⟩ (fun b1 => ?_) (fun b1 => ?_)
 ·rw [if_pos b1] at H
  refine EW.skip (by kernel_rfl) ?_
  refine EQ.code ?_
  refine EW.sq (by kernel_rfl) ?_
  refine EW.sq (by kernel_rfl) ?_
  refine EW.rg (by kernel_rfl) ?_
  refine EL.quick 1 [0, 1, 5] [(0, sv a5 a3 a0), (1, sv a6 a4 a1), (5, ia 0)] (by kernel_rfl) ?_
  refine EL.done (by kernel_rfl) ?_
  refine EQ.code ?_
  refine EW.bl 0 (by kernel_rfl) ?_
  refine EW.lp (fun n a w => ∃ a2 : Int, Sat 26 [(0, sv a5 a3 a0), (1, sv a6 a4 a1), (5, ia a2)] a ∧ St B w (os) (Ro.sl (Kd.int .i64) a5 a3 a0 :: Ro.sl (Kd.int .i64) a6 a4 a1 :: rs) ∧ confidanthelp_Ints.l0 K a0 a1 n a2 = some b4) K (by kernel_rfl) ?_ (fun n a w hI => ?_)
  ·refine EQ.keep [0, 1, 5] [(0, sv a5 a3 a0), (1, sv a6 a4 a1), (5, ia 0)] (by kernel_rfl) ?_
   exact fun a ha => ⟨0, ha, (hS.re [] [] rfl (sub_cons 0 rfl (sub_cons 1 rfl (sub_tail (sub_tail (sub_self)))))), H⟩
  obtain ⟨a2, ha, hS, H⟩ := hI
  obtain _ | n := n
  ·simp [confidanthelp_Ints.l0] at H
  rw [confidanthelp_Ints.l0.eq_2] at H
  refine EW.at ?_ a ha
  clear ha a
  refine EW.sq (by kernel_rfl) ?_
  refine EW.sq (by kernel_rfl) ?_
  refine EW.rg (by kernel_rfl) ?_
  refine EL.quick 4 [0, 1, 5, 14] [(0, sv a5 a3 a0), (1, sv a6 a4 a1), (5, ia a2), (14, .bool (decide (a2 < (a0.length : Int))))] (by kernel_rfl) ?_
  refine EL.done (by kernel_rfl) ?_
  refine EQ.code ?_
  refine EW.cdP (a2 < (a0.length : Int)) (by kernel_rfl) (by kernel_rfl) (fun a9 => ?_) (fun a9 => ?_)
  ·rw [if_pos a9] at H
   refine EW.skip (by kernel_rfl) ?_
   refine EQ.code ?_
   refine EW.sq (by kernel_rfl) ?_
   refine EW.bl 1 (by kernel_rfl) ?_
   refine EW.sq (by kernel_rfl) ?_
   obtain ⟨b0, H⟩ := ite_in H
   obtain ⟨a7, rfl⟩ := St.rd_some hS (Rd.ro 0 rfl) b0 a9
   obtain ⟨b2, H⟩ := ite_in H
   obtain ⟨a8, rfl⟩ := St.rd_some hS (Rd.ro 1 rfl) b0 b2
   have hS := hS.drew
   refine EW.dr (B := B) [] [Ro.sl (Kd.int .i64) (some a7) a3 a0, Ro.sl (Kd.int .i64) (some a8) a4 a1] (by kernel_rfl) (by kernel_rfl) ?_
   have hN : Region.noSelect Cd18.r.r.l.r.l.l.r.l.l.l.ops = true := (by kernel_rfl)
   have hF : freeAll Cd18.r.r.l.r.l.l.r.l.l.l.ops = true := (by kernel_rfl)
   have hC : Core B [] [Ro.sl (Kd.int .i64) (some a7) a3 a0, Ro.sl (Kd.int .i64) (some a8) a4 a1] _ := ⟨_, _, hS⟩
   refine ED.quick hN hF hC [0, 1, 4, 5] [0, 1, 5, 17, 18, 21, 22] 5 [(0, sv (some a7) a3 a0), (1, sv (some a8) a4 a1), (5, ia a2), (17, sv (some a7) a3 a0), (18, ia a2), (21, sv (some a8) a4 a1), (22, ia a2)] (bm 9 51) (by kernel_rfl) (by kernel_rfl) ?_
   refine ED.Y hN hF hC 2 4 (bm 9 55) (by kernel_rfl) (by kernel_rfl) rfl (fun _ _ _ hS => YO.idx 39 1 a7 a0.length a3 .i64 a2 19 (by kernel_rfl) (by kernel_rfl) (by kernel_rfl) (by kernel_rfl) b0 a9) ?_
   refine ED.Y hN hF hC 3 3 (bm 9 63) (by kernel_rfl) (by kernel_rfl) rfl (fun _ _ _ hS => YO.loadEl hS (Kd.int .i64) a7 a3 a0 (Rd.ro 0 rfl) 0 (encI .i64) encI_of a2 b0 a9 3 1 0 1 rfl (ia (a0.getD a2.toNat 0)) 20 (by kernel_rfl) (by kernel_rfl) (by kernel_rfl) (by kernel_rfl)) ?_
   refine ED.Y hN hF hC 6 2 (bm 9 127) (by kernel_rfl) (by kernel_rfl) rfl (fun _ _ _ hS => YO.idx 39 1 a8 a1.length a4 .i64 a2 23 (by kernel_rfl) (by kernel_rfl) (by kernel_rfl) (by kernel_rfl) b0 b2) ?_
   refine ED.Y hN hF hC 7 1 (bm 9 255) (by kernel_rfl) (by kernel_rfl) rfl (fun _ _ _ hS => YO.loadEl hS (Kd.int .i64) a8 a4 a1 (Rd.ro 1 rfl) 0 (encI .i64) encI_of a2 b0 b2 3 1 0 1 rfl (ia (a1.getD a2.toNat 0)) 24 (by kernel_rfl) (by kernel_rfl) (by kernel_rfl) (by kernel_rfl)) ?_
   refine ED.quick hN hF hC [8] [0, 1, 5, 25] 0 [(0, sv (some a7) a3 a0), (1, sv (some a8) a4 a1), (5, ia a2), (25, .bool (!(decide ((a0.getD a2.toNat 0) = (a1.getD a2.toNat 0)))))] (bm 9 511) (by kernel_rfl) (by kernel_rfl) ?_
   refine ED.done (by kernel_rfl) ?_
   refine EQ.code ?_
   refine EW.cdQ (b := !(decide ((a0.getD a2.toNat 0) = (a1.getD a2.toNat 0)))) ((a0.getD a2.toNat 0) = (a1.getD a2.toNat 0)) (false) (by kernel_rfl) (by kernel_rfl) ⟨fun h => (by rw [decide_eq_true h] <;> rfl), fun h => (by rw [decide_eq_false h] <;> rfl)⟩ (fun b3 => ?_) (fun b3 => ?_)
   ·rw [if_pos b3] at H
    refine EW.skip (by kernel_rfl) ?_
    refine EQ.pop ?_
    refine EQ.code ?_
    refine EW.rg (by kernel_rfl) ?_
    refine EL.quick 3 [0, 1, 5] [(0, sv (some a7) a3 a0), (1, sv (some a8) a4 a1), (5, ia (IntKind.i64.wrap (a2 + 1)))] (by kernel_rfl) ?_
    refine EL.done (by kernel_rfl) ?_
    refine EQ.to ?_
    refine EQ.keep [0, 1, 5] [(0, sv (some a7) a3 a0), (1, sv (some a8) a4 a1), (5, ia (IntKind.i64.wrap (a2 + 1)))] (by kernel_rfl) ?_
    exact fun a ha => ⟨n, Nat.lt_succ_self n, IntKind.i64.wrap (a2 + 1), ha, (hS.re [] [] rfl (sub_cons 0 rfl (sub_cons 1 rfl (sub_tail (sub_tail (sub_self)))))), H⟩
   rw [if_neg b3] at H
   refine EW.sq (by kernel_rfl) ?_
   refine EW.rg (by kernel_rfl) ?_
   refine EL.quick 1 [4] [(4, .bool (false))] (by kernel_rfl) ?_
   refine EL.done (by kernel_rfl) ?_
   refine EQ.code ?_
   refine EW.ret (by kernel_rfl) ?_
   refine EQ.ret ?_
   refine EQ.ret ?_
   refine EQ.ret ?_
   refine EQ.ret ?_
   refine EQ.ret ?_
   obtain rfl := Option.some.inj H
   exact EQ.leave (.bool (false)) (by kernel_rfl) ⟨_, rfl, rfl, (hS.re [] [] rfl (sub_self))⟩
  rw [if_neg a9] at H
  refine EW.exit (id := 0) (by kernel_rfl) ?_
  refine EQ.exitCode ?_
  refine EQ.exitTo ?_
  refine EQ.exitHere ?_
  refine EQ.code ?_
  refine EW.sq (by kernel_rfl) ?_
  refine EW.rg (by kernel_rfl) ?_
  refine EL.quick 1 [4] [(4, .bool (true))] (by kernel_rfl) ?_
  refine EL.done (by kernel_rfl) ?_
  refine EQ.code ?_
  refine EW.ret (by kernel_rfl) ?_
  obtain rfl := Option.some.inj H
  exact EQ.leave (.bool (true)) (by kernel_rfl) ⟨_, rfl, rfl, (hS.re [] [] rfl (sub_self))⟩
 rw [if_neg b1] at H
 refine EW.sq (by kernel_rfl) ?_
 refine EW.rg (by kernel_rfl) ?_
 refine EL.quick 1 [4] [(4, .bool (false))] (by kernel_rfl) ?_
 refine EL.done (by kernel_rfl) ?_
 refine EQ.code ?_
 refine EW.ret (by kernel_rfl) ?_
 refine EQ.ret ?_
 obtain rfl := Option.some.inj H
 exact EQ.leave (.bool (false)) (by kernel_rfl) ⟨_, rfl, rfl, (hS.re [] [] rfl (sub_self))⟩

/-! ### confidant/confidantref5.Image: function 22 -/
def confidantref5_Image.l0 (K : Nat) (a0 : List (List S32)) (a2 : Int) (a3 : Int) : Nat → Int → Option (Int × Int × Int)
 | 0, _ => none
 | n + 1, a1 => if a1 < (a0.length : Int) then (if 0 ≤ a1 then (b2 (confidantref5_Func.f K (a0.getD a1.toNat []) (a0.length : Int) a2 a3) fun (a9 : Int) (a6 : Int) => (if a6 = 0 then (confidantref5_Image.l0 K a0 a2 a3 n (IntKind.i64.wrap (a1 + 1))) else (some (a1, a9, a6)))) else none) else (some (0, 0, 0))
def confidantref5_Image.f (K : Nat) (a0 : List (List S32)) (a2 : Int) (a3 : Int) : Option (Int × Int × Int) := if (a0.length : Int) > 64 then (some (0, 0, 22)) else (if (a0.length : Int) = 0 then (some (0, 0, 24)) else (confidantref5_Image.l0 K a0 a2 a3 K 0))
set_option maxRecDepth 100000 in
theorem confidantref5_Image.calls {K : Nat} {a0 : List (List S32)} {a2 : Int} {a3 : Int} {a5 : Option Addr} {a4 : Nat} {b7 : Int} {b8 : Int} {b9 : Int} {B w : World} {os : List Ass} {rs : List Ro} (H : confidantref5_Image.f K a0 a2 a3 = some (b7, b8, b9)) (hS : St B w (os) (Ro.sl (Kd.slice kS32) a5 a4 a0 :: rs)) :
  Calls Try.prog 22 [sv a5 a4 a0, ia a2, ia a3].toArray w (fun en w' => ∃ v, en = .returned v ∧ v = .tuple #[ia b7, ia b8, ia b9] ∧ St B w' (os) (Ro.sl (Kd.slice kS32) a5 a4 a0 :: rs)) := by
 unfold confidantref5_Image.f at H
 refine calls_of_EW (args := [sv a5 a4 a0, ia a2, ia a3]) (c := Cd22) 41 Try.func22 (by kernel_rfl) (by kernel_rfl) (by kernel_rfl) ?_
 refine EW.sq (by kernel_rfl) ?_
 refine EW.rg (by kernel_rfl) ?_
 refine EL.quick 3 [0, 1, 2] [(0, sv a5 a4 a0), (1, ia a2), (2, ia a3)] (by kernel_rfl) ?_
 refine EL.done (by kernel_rfl) ?_
 refine EQ.code ?_
 refine EW.sq (by kernel_rfl) ?_
 refine EW.sq (by kernel_rfl) ?_
 refine EW.rg (by kernel_rfl) ?_
 refine EL.quick 3 [0, 1, 2, 14] [(0, sv a5 a4 a0), (1, ia a2), (2, ia a3), (14, .bool (decide ((a0.length : Int) > 64)))] (by kernel_rfl) ?_
 refine EL.done (by kernel_rfl) ?_
 refine EQ.code ?_
 refine EW.cdP ((a0.length : Int) > 64) (by kernel_rfl) (by kernel_rfl) (fun b3 => ?_) (fun b3 => ?_)
 ·rw [if_pos b3] at H
  refine EW.sq (by kernel_rfl) ?_
  refine EW.rg (by kernel_rfl) ?_
  refine EL.quick 3 [6, 7, 8] [(6, ia 0), (7, ia 0), (8, ia 22)] (by kernel_rfl) ?_
  refine EL.done (by kernel_rfl) ?_
  refine EQ.code ?_
  refine EW.ret (by kernel_rfl) ?_
  refine EQ.ret ?_
  simp only [sv, Option.some.injEq, Prod.mk.injEq] at H
  obtain ⟨rfl, rfl, rfl⟩ := H
  exact EQ.leave (.tuple #[ia 0, ia 0, ia 22]) (by kernel_rfl) ⟨_, rfl, rfl, (hS.re [] [] rfl (sub_self))⟩
 rw [if_neg b3] at H
 refine EW.skip (by kernel_rfl) ?_
 refine EQ.code ?_
 refine EW.sq (by kernel_rfl) ?_
 refine EW.sq (by kernel_rfl) ?_
 refine EW.rg (by kernel_rfl) ?_
 refine EL.quick 3 [0, 1, 2, 17] [(0, sv a5 a4 a0), (1, ia a2), (2, ia a3), (17, .bool (decide ((a0.length : Int) = 0)))] (by kernel_rfl) ?_
 refine EL.done (by kernel_rfl) ?_
 refine EQ.code ?_
 refine EW.cdP ((a0.length : Int) = 0) (by kernel_rfl) (by kernel_rfl) (fun b4 => ?_) (fun b4 => ?_)
 ·rw [if_pos b4] at H
  refine EW.sq (by kernel_rfl) ?_
  refine EW.rg (by kernel_rfl) ?_
  refine EL.quick 3 [6, 7, 8] [(6, ia 0), (7, ia 0), (8, ia 24)] (by kernel_rfl) ?_
  refine EL.done (by kernel_rfl) ?_
  refine EQ.code ?_
  refine EW.ret (by kernel_rfl) ?_
  refine EQ.ret ?_
  simp only [sv, Option.some.injEq, Prod.mk.injEq] at H
  obtain ⟨rfl, rfl, rfl⟩ := H
  exact EQ.leave (.tuple #[ia 0, ia 0, ia 24]) (by kernel_rfl) ⟨_, rfl, rfl, (hS.re [] [] rfl (sub_self))⟩
 rw [if_neg b4] at H
 refine EW.skip (by kernel_rfl) ?_
 refine EQ.code ?_
 refine EW.sq (by kernel_rfl) ?_
 refine EW.sq (by kernel_rfl) ?_
 refine EW.rg (by kernel_rfl) ?_
 refine EL.quick 1 [0, 1, 2, 9] [(0, sv a5 a4 a0), (1, ia a2), (2, ia a3), (9, ia 0)] (by kernel_rfl) ?_
 refine EL.done (by kernel_rfl) ?_
 refine EQ.code ?_
 refine EW.bl 0 (by kernel_rfl) ?_
 refine EW.lp (fun n a w => ∃ a1 : Int, Sat 41 [(0, sv a5 a4 a0), (1, ia a2), (2, ia a3), (9, ia a1)] a ∧ St B w (os) (Ro.sl (Kd.slice kS32) a5 a4 a0 :: rs) ∧ confidantref5_Image.l0 K a0 a2 a3 n a1 = some (b7, b8, b9)) K (by kernel_rfl) ?_ (fun n a w hI => ?_)
 ·refine EQ.keep [0, 1, 2, 9] [(0, sv a5 a4 a0), (1, ia a2), (2, ia a3), (9, ia 0)] (by kernel_rfl) ?_
  exact fun a ha => ⟨0, ha, (hS.re [] [] rfl (sub_cons 0 rfl (sub_tail (sub_self)))), H⟩
 obtain ⟨a1, ha, hS, H⟩ := hI
 obtain _ | n := n
 ·simp [confidantref5_Image.l0] at H
 rw [confidantref5_Image.l0.eq_2] at H
 refine EW.at ?_ a ha
 clear ha a
 refine EW.sq (by kernel_rfl) ?_
 refine EW.sq (by kernel_rfl) ?_
 refine EW.rg (by kernel_rfl) ?_
 refine EL.quick 4 [0, 1, 2, 9, 21] [(0, sv a5 a4 a0), (1, ia a2), (2, ia a3), (9, ia a1), (21, .bool (decide (a1 < (a0.length : Int))))] (by kernel_rfl) ?_
 refine EL.done (by kernel_rfl) ?_
 refine EQ.code ?_
 refine EW.cdP (a1 < (a0.length : Int)) (by kernel_rfl) (by kernel_rfl) (fun a8 => ?_) (fun a8 => ?_)
 ·rw [if_pos a8] at H
  refine EW.skip (by kernel_rfl) ?_
  refine EQ.code ?_
  refine EW.sq (by kernel_rfl) ?_
  refine EW.bl 1 (by kernel_rfl) ?_
  refine EW.sq (by kernel_rfl) ?_
  refine EW.rg (by kernel_rfl) ?_
  refine EL.quick 2 [0, 1, 2, 9, 25, 26] [(0, sv a5 a4 a0), (1, ia a2), (2, ia a3), (9, ia a1), (25, sv a5 a4 a0), (26, ia a1)] (by kernel_rfl) ?_
  obtain ⟨b5, H⟩ := ite_in H
  obtain ⟨a7, rfl⟩ := St.rd_some hS (Rd.ro 0 rfl) b5 a8
  refine EL.of (EO.Y (YO.idx 23 1 a7 a0.length a4 .i64 a1 27 (by kernel_rfl) (by kernel_rfl) (by kernel_rfl) (by kernel_rfl) b5 a8) ?_)
  refine EL.of (EO.loadSl hS kS32 a7 a4 a0 (Rd.ro 0 rfl) a1 b5 a8 29 28 (by kernel_rfl) (by kernel_rfl) (by kernel_rfl) (by kernel_rfl) ?_)
  intro b0 b1 hS
  refine EL.quick 4 [0, 1, 2, 9, 28, 30, 31, 32] [(0, sv (some a7) a4 a0), (1, ia a2), (2, ia a3), (9, ia a1), (28, sv b0 b1 (a0.getD a1.toNat [])), (30, ia (a0.length : Int)), (31, ia a2), (32, ia a3)] (by kernel_rfl) ?_
  have hS : St B _ (os) (Ro.sl kS32 b0 b1 (a0.getD a1.toNat []) :: Ro.sl (Kd.slice kS32) (some a7) a4 a0 :: rs) := hS.re [] [] rfl (sub_cons 0 rfl (sub_tail (sub_self)))
  obtain ⟨a9, a6, c0, H⟩ := b2_out H
  have hq := confidantref5_Func.calls c0 hS
  refine EL.of (EO.callD 17 [sv b0 b1 (a0.getD a1.toNat []), ia (a0.length : Int), ia a2, ia a3] _ 33 (by kernel_rfl) (by kernel_rfl) (by kernel_rfl) hq ?_)
  rintro v w ⟨rfl, hS⟩
  refine EL.quick 5 [0, 1, 2, 9, 10, 11] [(0, sv (some a7) a4 a0), (1, ia a2), (2, ia a3), (9, ia a1), (10, ia a9), (11, ia a6)] (by kernel_rfl) ?_
  refine EL.done (by kernel_rfl) ?_
  refine EQ.code ?_
  refine EW.sq (by kernel_rfl) ?_
  refine EW.rg (by kernel_rfl) ?_
  refine EL.quick 2 [0, 1, 2, 9, 10, 11, 37] [(0, sv (some a7) a4 a0), (1, ia a2), (2, ia a3), (9, ia a1), (10, ia a9), (11, ia a6), (37, .bool (!(decide (a6 = 0))))] (by kernel_rfl) ?_
  refine EL.done (by kernel_rfl) ?_
  refine EQ.code ?_
  refine EW.cdQ (b := !(decide (a6 = 0))) (a6 = 0) (false) (by kernel_rfl) (by kernel_rfl) ⟨fun h => (by rw [decide_eq_true h] <;> rfl), fun h => (by rw [decide_eq_false h] <;> rfl)⟩ (fun b6 => ?_) (fun b6 => ?_)
  ·rw [if_pos b6] at H
   refine EW.skip (by kernel_rfl) ?_
   refine EQ.pop ?_
   refine EQ.code ?_
   refine EW.rg (by kernel_rfl) ?_
   refine EL.quick 3 [0, 1, 2, 9] [(0, sv (some a7) a4 a0), (1, ia a2), (2, ia a3), (9, ia (IntKind.i64.wrap (a1 + 1)))] (by kernel_rfl) ?_
   refine EL.done (by kernel_rfl) ?_
   refine EQ.to ?_
   refine EQ.keep [0, 1, 2, 9] [(0, sv (some a7) a4 a0), (1, ia a2), (2, ia a3), (9, ia (IntKind.i64.wrap (a1 + 1)))] (by kernel_rfl) ?_
   exact fun a ha => ⟨n, Nat.lt_succ_self n, IntKind.i64.wrap (a1 + 1), ha, (hS.re [] [] rfl (sub_cons 1 rfl (sub_tail (sub_tail (sub_self))))), H⟩
  rw [if_neg b6] at H
  refine EW.sq (by kernel_rfl) ?_
  refine EW.rg (by kernel_rfl) ?_
  refine EL.quick 6 [6, 7, 8] [(6, ia a1), (7, ia a9), (8, ia a6)] (by kernel_rfl) ?_
  refine EL.done (by kernel_rfl) ?_
  refine EQ.code ?_
  refine EW.ret (by kernel_rfl) ?_
  refine EQ.ret ?_
  refine EQ.ret ?_
  refine EQ.ret ?_
  refine EQ.ret ?_
  refine EQ.ret ?_
  simp only [sv, Option.some.injEq, Prod.mk.injEq] at H
  obtain ⟨rfl, rfl, rfl⟩ := H
  exact EQ.leave (.tuple #[ia a1, ia a9, ia a6]) (by kernel_rfl) ⟨_, rfl, rfl, (hS.re [] [] rfl (sub_tail (sub_self)))⟩
 rw [if_neg a8] at H
 refine EW.exit (id := 0) (by kernel_rfl) ?_
 refine EQ.exitCode ?_
 refine EQ.exitTo ?_
 refine EQ.exitHere ?_
 refine EQ.code ?_
 refine EW.sq (by kernel_rfl) ?_
 refine EW.rg (by kernel_rfl) ?_
 refine EL.quick 3 [6, 7, 8] [(6, ia 0), (7, ia 0), (8, ia 0)] (by kernel_rfl) ?_
 refine EL.done (by kernel_rfl) ?_
 refine EQ.code ?_
 refine EW.ret (by kernel_rfl) ?_
 simp only [sv, Option.some.injEq, Prod.mk.injEq] at H
 obtain ⟨rfl, rfl, rfl⟩ := H
 exact EQ.leave (.tuple #[ia 0, ia 0, ia 0]) (by kernel_rfl) ⟨_, rfl, rfl, (hS.re [] [] rfl (sub_self))⟩

end Go.Proofs.Ytlcnkngpankkpaa.G
