import Derived.Test.YtipaaapbapijhaaProg
import Derived.Test.YtipaaapbapijhaaFwEq
import Derived.Test.YtipaaapbapijhaaFwOpen
import Derived.Test.YtipaaapbapijhaaG0
import Derived.Test.YtipaaapbapijhaaG2
import Derived.Test.YtipaaapbapijhaaG4
namespace Go.Proofs.Ytipaaapbapijhaa.G
open Go Go.Fw Go.RowKit Go.Proofs
set_option linter.unusedVariables false
set_option linter.unusedSimpArgs false

/-! ### (*confidant/confidantref12.Futures).end: function 49 -/
def confidantref12_Futures_end.f (K : Nat) (a5 : List Int) (a1 : List (List S96)) (b4 : Int) (a4 : Int) (a3 : Int) (a2 : Int) : Option (List (List S96) × Bool) := b2 (confidantref12_Futures_Get.f K a5 a1 b4) fun (a0 : S96) (c3 : Bool) => (lt (fun (c7 : Bool) => (if c7 = true then (some (a1, false)) else (b1 (confidantref9_Label.f K b4) fun (b3 : Int) => (if 0 ≤ b3 then (if b3 < (a1.length : Int) then (b1 (confidantref9_Number.f K b4) fun (b7 : Int) => (if 0 ≤ b7 then (if b7 < ((a1.getD b3.toNat []).length : Int) then (lt ((a1.getD b3.toNat []).set b7.toNat (⟨a0.f0, a4, a3, a2⟩ : S96)) fun b6 => (some ((a1.set b3.toNat b6), true))) else none) else none)) else none) else none)))) fun d1 => (if c3 = true then (d1 (!(decide (a0.f1 = 0)))) else (d1 true)))
set_option maxRecDepth 100000 in
theorem confidantref12_Futures_end.calls {K : Nat} {a5 : List Int} {a1 : List (List S96)} {b4 : Int} {a4 : Int} {a3 : Int} {a2 : Int} {a6 : Nat} {a7 : Option Addr} {a8 : Nat} {b8 : Option Addr} {a9 : Nat} {d2 : List (List S96)} {d4 : Bool} {B w : World} {os : List Ass} {rs : List Ro} (H : confidantref12_Futures_end.f K a5 a1 b4 a4 a3 a2 = some (d2, d4)) (hS : St B w (Ass.box 105 a6 [.slice a7 a5.length a8, .slice b8 a1.length a9] :: Ass.own 3 (Kd.int .i64) a7 a8 a5 :: Ass.deep 94 96 kS96 b8 a9 a1 :: os) (rs)) :
  Calls Try.prog 49 [.pointer (some ⟨a6, 0, none⟩), .int .i32 b4, .int .i64 a4, .int .i32 a3, .int .i64 a2].toArray w (fun en w' => ∃ v, en = .returned v ∧ ∃ d5 : Option Addr, ∃ d8 : Nat, v = .bool (d4) ∧ St B w' (Ass.box 105 a6 [.slice a7 a5.length a8, .slice d5 d2.length d8] :: Ass.own 3 (Kd.int .i64) a7 a8 a5 :: Ass.deep 94 96 kS96 d5 d8 d2 :: os) (rs)) := by
 unfold confidantref12_Futures_end.f at H
 refine calls_of_EW (args := [.pointer (some ⟨a6, 0, none⟩), .int .i32 b4, .int .i64 a4, .int .i32 a3, .int .i64 a2]) (c := Cd49) 44 Try.func49 (by kernel_rfl) (by kernel_rfl) (by kernel_rfl) ?_
 refine EW.seq (x := Cd49.l) (y := Cd49.r) (by kernel_rfl) ?_
 refine EW.region (id := 0) (ops := Cd49.l.ops) (by kernel_rfl) ?_
 refine EL.quick 1 [0, 1, 2, 3, 4] [(0, .pointer (some ⟨a6, 0, none⟩)), (1, .int .i32 b4), (2, .int .i64 a4), (3, .int .i32 a3), (4, .int .i64 a2)] (by kernel_rfl) ?_
 refine EL.done (by kernel_rfl) ?_
 refine EQ.code ?_
 refine EW.seq (x := Cd49.r.l) (y := Cd49.r.r) (by kernel_rfl) ?_
 refine EW.region (id := 1) (ops := Cd49.r.l.ops) (by kernel_rfl) ?_
 refine EL.quick 2 [0, 1, 2, 3, 4, 14, 15] [(0, .pointer (some ⟨a6, 0, none⟩)), (1, .int .i32 b4), (2, .int .i64 a4), (3, .int .i32 a3), (4, .int .i64 a2), (14, .pointer (some ⟨a6, 0, none⟩)), (15, .int .i32 b4)] (by kernel_rfl) ?_
 obtain ⟨a0, c3, e0, H⟩ := b2_out H
 refine EL.of (EO.callD 48 [.pointer (some ⟨a6, 0, none⟩), .int .i32 b4] _ 16 (by kernel_rfl) (by kernel_rfl) (by kernel_rfl) (confidantref12_Futures_Get.calls e0 hS) ?_)
 rintro v w ⟨rfl, hS⟩
 refine EL.quick 3 [0, 1, 2, 3, 4, 17, 18] [(0, .pointer (some ⟨a6, 0, none⟩)), (1, .int .i32 b4), (2, .int .i64 a4), (3, .int .i32 a3), (4, .int .i64 a2), (17, .agg #[.int .i64 a0.f0, .int .i64 a0.f1, .int .i32 a0.f2, .int .i64 a0.f3]), (18, .bool (c3))] (by kernel_rfl) ?_
 refine EL.of (EO.alloc hS 96 (.agg #[.int .i64 0, .int .i64 0, .int .i32 0, .int .i64 0]) [.int .i64 0, .int .i64 0, .int .i32 0, .int .i64 0] 11 (by kernel_rfl) (by kernel_rfl) (by kernel_rfl) (by kernel_rfl) (by first | rfl | kernel_rfl) ?_)
 intro b0 w hS
 refine EL.of (EO.storeBox (os' := Ass.box 96 b0 [.int .i64 a0.f0, .int .i64 a0.f1, .int .i32 a0.f2, .int .i64 a0.f3] :: Ass.box 105 a6 [.slice a7 a5.length a8, .slice b8 a1.length a9] :: Ass.own 3 (Kd.int .i64) a7 a8 a5 :: Ass.deep 94 96 kS96 b8 a9 a1 :: os) hS 0 rfl 96 0 (.agg #[.int .i64 a0.f0, .int .i64 a0.f1, .int .i32 a0.f2, .int .i64 a0.f3]) [.int .i64 a0.f0, .int .i64 a0.f1, .int .i32 a0.f2, .int .i64 a0.f3] (by kernel_rfl) (by kernel_rfl) (by kernel_rfl) (by kernel_rfl) (by kernel_rfl) (by kernel_rfl) rfl rfl ?_)
 intro w hS
 refine EL.quick 1 [0, 1, 2, 3, 4, 11, 12] [(0, .pointer (some ⟨a6, 0, none⟩)), (1, .int .i32 b4), (2, .int .i64 a4), (3, .int .i32 a3), (4, .int .i64 a2), (11, .pointer (some ⟨b0, 0, none⟩)), (12, .bool (c3))] (by kernel_rfl) ?_
 refine EL.done (by kernel_rfl) ?_
 refine EQ.code ?_
 refine EW.seq (x := Cd49.r.r.l) (y := Cd49.r.r.r) (by kernel_rfl) ?_
 obtain ⟨d1, e2, H⟩ := lt_out H
 refine EW.cut (x := Cd49.r.r.l.l) (y := Cd49.r.r.l.r) (fun a w => ∃ c7 : Bool, Sat 44 [(0, .pointer (some ⟨a6, 0, none⟩)), (1, .int .i32 b4), (2, .int .i64 a4), (3, .int .i32 a3), (4, .int .i64 a2), (11, .pointer (some ⟨b0, 0, none⟩)), (25, .bool (c7))] a ∧ St B w (Ass.box 96 b0 [.int .i64 a0.f0, .int .i64 a0.f1, .int .i32 a0.f2, .int .i64 a0.f3] :: Ass.box 105 a6 [.slice a7 a5.length a8, .slice b8 a1.length a9] :: Ass.own 3 (Kd.int .i64) a7 a8 a5 :: Ass.deep 94 96 kS96 b8 a9 a1 :: os) (rs) ∧ d1 c7 = some (d2, d4)) (by kernel_rfl) ?_ (fun a w hI => ?_)
 ·refine EW.region (id := 2) (ops := Cd49.r.r.l.l.ops) (by kernel_rfl) ?_
  refine EL.quick 3 [0, 1, 2, 3, 4, 11, 21] [(0, .pointer (some ⟨a6, 0, none⟩)), (1, .int .i32 b4), (2, .int .i64 a4), (3, .int .i32 a3), (4, .int .i64 a2), (11, .pointer (some ⟨b0, 0, none⟩)), (21, .bool (!(c3)))] (by kernel_rfl) ?_
  by_cases c8 : c3 = true
  ·rw [if_pos c8] at H
   refine EL.keep [0, 1, 2, 3, 4, 11, 21] [(0, .pointer (some ⟨a6, 0, none⟩)), (1, .int .i32 b4), (2, .int .i64 a4), (3, .int .i32 a3), (4, .int .i64 a2), (11, .pointer (some ⟨b0, 0, none⟩)), (21, .bool (!(c3)))] (by kernel_rfl) ?_
   refine EL.as' [(0, .pointer (some ⟨a6, 0, none⟩)), (1, .int .i32 b4), (2, .int .i64 a4), (3, .int .i32 a3), (4, .int .i64 a2), (11, .pointer (some ⟨b0, 0, none⟩)), (21, .bool (false))] (by simp only [c8, Bool.not_true, Bool.not_false]) ?_
   refine EL.quick 1 [0, 1, 2, 3, 4, 11, 21, 22] [(0, .pointer (some ⟨a6, 0, none⟩)), (1, .int .i32 b4), (2, .int .i64 a4), (3, .int .i32 a3), (4, .int .i64 a2), (11, .pointer (some ⟨b0, 0, none⟩)), (21, .bool (false)), (22, .pointer (some ⟨b0, 1, none⟩))] (by kernel_rfl) ?_
   refine EL.of (EO.Y (YO.loadBox hS 0 rfl 3 1 1 (.int .i64 a0.f1) 23 (by kernel_rfl) (by kernel_rfl) (by kernel_rfl) (by kernel_rfl)) ?_)
   refine EL.quick 2 [0, 1, 2, 3, 4, 11, 25] [(0, .pointer (some ⟨a6, 0, none⟩)), (1, .int .i32 b4), (2, .int .i64 a4), (3, .int .i32 a3), (4, .int .i64 a2), (11, .pointer (some ⟨b0, 0, none⟩)), (25, .bool (!(decide (a0.f1 = 0))))] (by kernel_rfl) ?_
   refine EL.done (by kernel_rfl) ?_
   refine EQ.to ?_
   refine EQ.keep [0, 1, 2, 3, 4, 11, 25] [(0, .pointer (some ⟨a6, 0, none⟩)), (1, .int .i32 b4), (2, .int .i64 a4), (3, .int .i32 a3), (4, .int .i64 a2), (11, .pointer (some ⟨b0, 0, none⟩)), (25, .bool (!(decide (a0.f1 = 0))))] (by kernel_rfl) ?_
   exact fun a ha => ⟨!(decide (a0.f1 = 0)), ha, (hS.re [3, 3, 3, 3] [] rfl (sub_self)), H⟩
  ·rw [if_neg c8] at H
   refine EL.keep [0, 1, 2, 3, 4, 11, 21] [(0, .pointer (some ⟨a6, 0, none⟩)), (1, .int .i32 b4), (2, .int .i64 a4), (3, .int .i32 a3), (4, .int .i64 a2), (11, .pointer (some ⟨b0, 0, none⟩)), (21, .bool (!(c3)))] (by kernel_rfl) ?_
   refine EL.as' [(0, .pointer (some ⟨a6, 0, none⟩)), (1, .int .i32 b4), (2, .int .i64 a4), (3, .int .i32 a3), (4, .int .i64 a2), (11, .pointer (some ⟨b0, 0, none⟩)), (21, .bool (true))] (by simp only [(Bool.eq_false_iff.2 c8), Bool.not_true, Bool.not_false]) ?_
   refine EL.quick 4 [0, 1, 2, 3, 4, 11, 25] [(0, .pointer (some ⟨a6, 0, none⟩)), (1, .int .i32 b4), (2, .int .i64 a4), (3, .int .i32 a3), (4, .int .i64 a2), (11, .pointer (some ⟨b0, 0, none⟩)), (25, .bool (true))] (by kernel_rfl) ?_
   refine EL.done (by kernel_rfl) ?_
   refine EQ.to ?_
   refine EQ.keep [0, 1, 2, 3, 4, 11, 25] [(0, .pointer (some ⟨a6, 0, none⟩)), (1, .int .i32 b4), (2, .int .i64 a4), (3, .int .i32 a3), (4, .int .i64 a2), (11, .pointer (some ⟨b0, 0, none⟩)), (25, .bool (true))] (by kernel_rfl) ?_
   exact fun a ha => ⟨true, ha, (hS.re [3, 3, 3, 3] [] rfl (sub_self)), H⟩
 ·obtain ⟨c7, ha, hS, H⟩ := hI
  rw [e2] at H
  (try dsimp only at H)
  refine EW.at ?_ a ha
  clear ha a
  refine EW.condP' (o := (.tmp 25)) (x := Cd49.r.r.l.r.l) (y := Cd49.r.r.l.r.r) (c7) (by kernel_rfl) (by kernel_rfl) (fun d3 => ?_) (fun d3 => ?_)
  ·rw [if_pos d3] at H
   refine EW.seq (x := Cd49.r.r.l.r.l.l) (y := Cd49.r.r.l.r.l.r) (by kernel_rfl) ?_
   refine EW.region (id := 3) (ops := Cd49.r.r.l.r.l.l.ops) (by kernel_rfl) ?_
   refine EL.quick 1 [10] [(10, .bool (false))] (by kernel_rfl) ?_
   refine EL.done (by kernel_rfl) ?_
   refine EQ.code ?_
   refine EW.ret (by kernel_rfl) ?_
   refine EQ.ret ?_
   simp only [Option.some.injEq, Prod.mk.injEq] at H
   obtain ⟨rfl, rfl⟩ := H
   exact EQ.leave (.bool (false)) (by kernel_rfl) ⟨_, rfl, b8, a9, rfl, (hS.re [3, 3, 3] [3] rfl (sub_self))⟩
  ·rw [if_neg d3] at H
   refine EW.skip (by kernel_rfl) ?_
   refine EQ.code ?_
   refine EW.seq (x := Cd49.r.r.r.l) (y := Cd49.r.r.r.r) (by kernel_rfl) ?_
   refine EW.region (id := 4) (ops := Cd49.r.r.r.l.ops) (by kernel_rfl) ?_
   refine EL.quick 4 [0, 1, 11, 26, 27, 28, 29] [(0, .pointer (some ⟨a6, 0, none⟩)), (1, .int .i32 b4), (11, .pointer (some ⟨b0, 0, none⟩)), (26, .int .i64 a4), (27, .int .i32 a3), (28, .int .i64 a2), (29, .pointer (some ⟨b0, 1, none⟩))] (by kernel_rfl) ?_
   refine EL.of (EO.storeBox (os' := Ass.box 96 b0 [.int .i64 a0.f0, .int .i64 a4, .int .i32 a0.f2, .int .i64 a0.f3] :: Ass.box 105 a6 [.slice a7 a5.length a8, .slice b8 a1.length a9] :: Ass.own 3 (Kd.int .i64) a7 a8 a5 :: Ass.deep 94 96 kS96 b8 a9 a1 :: os) hS 0 rfl 3 1 (.int .i64 a4) [.int .i64 a0.f0, .int .i64 a4, .int .i32 a0.f2, .int .i64 a0.f3] (by kernel_rfl) (by kernel_rfl) (by kernel_rfl) (by kernel_rfl) (by kernel_rfl) (by kernel_rfl) rfl rfl ?_)
   intro w hS
   refine EL.quick 1 [0, 1, 11, 27, 28, 30] [(0, .pointer (some ⟨a6, 0, none⟩)), (1, .int .i32 b4), (11, .pointer (some ⟨b0, 0, none⟩)), (27, .int .i32 a3), (28, .int .i64 a2), (30, .pointer (some ⟨b0, 2, none⟩))] (by kernel_rfl) ?_
   refine EL.of (EO.storeBox (os' := Ass.box 96 b0 [.int .i64 a0.f0, .int .i64 a4, .int .i32 a3, .int .i64 a0.f3] :: Ass.box 105 a6 [.slice a7 a5.length a8, .slice b8 a1.length a9] :: Ass.own 3 (Kd.int .i64) a7 a8 a5 :: Ass.deep 94 96 kS96 b8 a9 a1 :: os) hS 0 rfl 21 2 (.int .i32 a3) [.int .i64 a0.f0, .int .i64 a4, .int .i32 a3, .int .i64 a0.f3] (by kernel_rfl) (by kernel_rfl) (by kernel_rfl) (by kernel_rfl) (by kernel_rfl) (by kernel_rfl) rfl rfl ?_)
   intro w hS
   refine EL.quick 1 [0, 1, 11, 28, 31] [(0, .pointer (some ⟨a6, 0, none⟩)), (1, .int .i32 b4), (11, .pointer (some ⟨b0, 0, none⟩)), (28, .int .i64 a2), (31, .pointer (some ⟨b0, 3, none⟩))] (by kernel_rfl) ?_
   refine EL.of (EO.storeBox (os' := Ass.box 96 b0 [.int .i64 a0.f0, .int .i64 a4, .int .i32 a3, .int .i64 a2] :: Ass.box 105 a6 [.slice a7 a5.length a8, .slice b8 a1.length a9] :: Ass.own 3 (Kd.int .i64) a7 a8 a5 :: Ass.deep 94 96 kS96 b8 a9 a1 :: os) hS 0 rfl 57 3 (.int .i64 a2) [.int .i64 a0.f0, .int .i64 a4, .int .i32 a3, .int .i64 a2] (by kernel_rfl) (by kernel_rfl) (by kernel_rfl) (by kernel_rfl) (by kernel_rfl) (by kernel_rfl) rfl rfl ?_)
   intro w hS
   refine EL.done (by kernel_rfl) ?_
   refine EQ.code ?_
   refine EW.seq (x := Cd49.r.r.r.r.l) (y := Cd49.r.r.r.r.r) (by kernel_rfl) ?_
   obtain ⟨b3, e1, H⟩ := b1_out H
   obtain ⟨c9, H⟩ := ite_in H
   obtain ⟨d0, H⟩ := ite_in H
   obtain ⟨b5, rfl⟩ := St.deep_some hS 3 rfl c9 d0
   obtain ⟨b7, d9, H⟩ := b1_out H
   obtain ⟨c4, H⟩ := ite_in H
   obtain ⟨c5, H⟩ := ite_in H
   obtain ⟨b6, c6, H⟩ := lt_out H
   refine EW.meet (id := 5) (ops := Cd49.r.r.r.r.l.ops) (fun a w => Sat 44 [] a ∧ St B w (Ass.box 96 b0 [.int .i64 a0.f0, .int .i64 a4, .int .i32 a3, .int .i64 a2] :: Ass.box 105 a6 [.slice a7 a5.length a8, .slice (some b5) (a1.set b3.toNat b6).length a9] :: Ass.own 3 (Kd.int .i64) a7 a8 a5 :: Ass.deep 94 96 kS96 (some b5) a9 (a1.set b3.toNat b6) :: os) (rs)) (by kernel_rfl) ?_ (fun a w hI => ?_)
   ·have hS := hS.drew
    refine EW.draw (B := B) (id := 5) (ops := Cd49.r.r.r.r.l.ops) [Ass.box 96 b0 [.int .i64 a0.f0, .int .i64 a4, .int .i32 a3, .int .i64 a2], Ass.box 105 a6 [.slice a7 a5.length a8, .slice (some b5) a1.length a9], Ass.own 3 (Kd.int .i64) a7 a8 a5] [] (by kernel_rfl) (by kernel_rfl) ?_
    have hN : Region.noSelect Cd49.r.r.r.r.l.ops = true := (by kernel_rfl)
    have hF : freeAll Cd49.r.r.r.r.l.ops = true := (by kernel_rfl)
    have hC : Core B [Ass.box 96 b0 [.int .i64 a0.f0, .int .i64 a4, .int .i32 a3, .int .i64 a2], Ass.box 105 a6 [.slice a7 a5.length a8, .slice (some b5) a1.length a9], Ass.own 3 (Kd.int .i64) a7 a8 a5] [] _ := ⟨_, _, hS⟩
    refine ED.quick hN hF hC [0, 1, 2, 4, 8] [11, 34, 36, 40] 8 [(11, .pointer (some ⟨b0, 0, none⟩)), (34, .pointer (some ⟨a6, 1, none⟩)), (36, .int .i32 b4), (40, .int .i32 b4)] #[true, true, true, false, true, false, false, false, true, false, false, false, false] (by kernel_rfl) (by kernel_rfl) ?_
    refine ED.Y hN hF hC 3 7 #[true, true, true, true, true, false, false, false, true, false, false, false, false] (by kernel_rfl) (by kernel_rfl) rfl (fun _ _ _ hS => YO.loadBox hS 1 rfl 89 1 1 (.slice (some b5) a1.length a9) 35 (by kernel_rfl) (by kernel_rfl) (by kernel_rfl) (by kernel_rfl)) ?_
    refine ED.Y hN hF hC 10 6 #[true, true, true, true, true, false, false, false, true, false, true, false, false] (by kernel_rfl) (by kernel_rfl) rfl (fun _ _ _ hS => YO.loadBox hS 0 rfl 96 0 4 (.agg #[.int .i64 a0.f0, .int .i64 a4, .int .i32 a3, .int .i64 a2]) 42 (by kernel_rfl) (by kernel_rfl) (by kernel_rfl) (by kernel_rfl)) ?_
    refine ED.one 5 5 #[true, true, true, true, true, true, false, false, true, false, true, false, false] (by kernel_rfl) (by kernel_rfl) (by kernel_rfl) (EO.callD 69 [.int .i32 b4] _ 37 (by kernel_rfl) (by kernel_rfl) (by kernel_rfl) (confidantref9_Label.calls e1 hS) ?_)
    rintro v w ⟨rfl, hS⟩
    have hC : Core B [Ass.box 96 b0 [.int .i64 a0.f0, .int .i64 a4, .int .i32 a3, .int .i64 a2], Ass.box 105 a6 [.slice a7 a5.length a8, .slice (some b5) a1.length a9], Ass.own 3 (Kd.int .i64) a7 a8 a5] [] _ := ⟨_, _, hS⟩
    refine ⟨hC, ?_⟩
    refine ED.Y hN hF hC 6 4 #[true, true, true, true, true, true, true, false, true, false, true, false, false] (by kernel_rfl) (by kernel_rfl) rfl (fun _ _ _ hS => YO.idx 89 1 b5 a1.length a9 .i64 b3 38 (by kernel_rfl) (by kernel_rfl) (by kernel_rfl) (by kernel_rfl) c9 d0) ?_
    refine ED.two 7 9 3 (by kernel_rfl) (by kernel_rfl) ?_ ?_
    ·refine EO.openEl hS 3 b5 rfl b3 c9 d0 (fun d6 b9 => Ass.box 96 b0 [.int .i64 a0.f0, .int .i64 a4, .int .i32 a3, .int .i64 a2] :: Ass.box 105 a6 [.slice a7 a5.length a8, .slice (some b5) a1.length a9] :: Ass.own 3 (Kd.int .i64) a7 a8 a5 :: Ass.holed 94 96 kS96 (some b5) a9 a1 b3.toNat (d6, (a1.getD b3.toNat []).length, b9) :: os) 94 39 (by kernel_rfl) (by kernel_rfl) (by kernel_rfl) (by kernel_rfl) (fun _ _ => rfl) ?_
     intro d6 b9 hS
     have hC : Core B [Ass.box 96 b0 [.int .i64 a0.f0, .int .i64 a4, .int .i32 a3, .int .i64 a2], Ass.box 105 a6 [.slice a7 a5.length a8, .slice (some b5) a1.length a9], Ass.own 3 (Kd.int .i64) a7 a8 a5] [] _ := ⟨_, _, hS.re [3, 3, 3] [] rfl sub_self⟩
     refine ⟨hC, ?_⟩
     refine ED.at' #[true, true, true, true, true, true, true, true, true, false, true, false, false] (by kernel_rfl) ?_
     refine ED.one 9 2 #[true, true, true, true, true, true, true, true, true, true, true, false, false] (by kernel_rfl) (by kernel_rfl) (by kernel_rfl) (EO.callD 68 [.int .i32 b4] _ 41 (by kernel_rfl) (by kernel_rfl) (by kernel_rfl) (confidantref9_Number.calls d9 hS) ?_)
     rintro v w ⟨rfl, hS⟩
     have hC : Core B [Ass.box 96 b0 [.int .i64 a0.f0, .int .i64 a4, .int .i32 a3, .int .i64 a2], Ass.box 105 a6 [.slice a7 a5.length a8, .slice (some b5) a1.length a9], Ass.own 3 (Kd.int .i64) a7 a8 a5] [] _ := ⟨_, _, hS.re [3, 3, 3] [] rfl sub_self⟩
     refine ⟨hC, ?_⟩
     obtain ⟨c1, rfl⟩ := St.rd_some hS (Rd.own 0 96 rfl) c4 c5
     refine ED.Y hN hF hC 11 1 #[true, true, true, true, true, true, true, true, true, true, true, true, false] (by kernel_rfl) (by kernel_rfl) rfl (fun _ _ _ hS => YO.idx 94 4 c1 (a1.getD b3.toNat []).length b9 .i64 b7 43 (by kernel_rfl) (by kernel_rfl) (by kernel_rfl) (by kernel_rfl) c4 c5) ?_
     refine ED.one 12 0 #[true, true, true, true, true, true, true, true, true, true, true, true, true] (by kernel_rfl) (by kernel_rfl) (by kernel_rfl) (EO.storeEl hS 0 kS96 96 c1 b9 (a1.getD b3.toNat []) rfl b7 c4 c5 zS96 96 4 0 rfl (.agg #[.int .i64 a0.f0, .int .i64 a4, .int .i32 a3, .int .i64 a2]) (⟨a0.f0, a4, a3, a2⟩ : S96) b6 c6 (Ass.own 96 kS96 (some c1) b9 b6 :: Ass.box 96 b0 [.int .i64 a0.f0, .int .i64 a4, .int .i32 a3, .int .i64 a2] :: Ass.box 105 a6 [.slice a7 a5.length a8, .slice (some b5) a1.length a9] :: Ass.own 3 (Kd.int .i64) a7 a8 a5 :: Ass.holed 94 96 kS96 (some b5) a9 a1 b3.toNat ((some c1), (a1.getD b3.toNat []).length, b9) :: os) (by kernel_rfl) (by kernel_rfl) (by kernel_rfl) (by kernel_rfl) (by kernel_rfl) (by kernel_rfl) (fun w G vs hr h => set_whole h (by kernel_rfl) ⟨[.int .i64 a0.f0], [.int .i64 a4, .int .i32 a3, .int .i64 a2], rfl, rfl, ⟨[.int .i64 a4], [.int .i32 a3, .int .i64 a2], rfl, rfl, ⟨[.int .i32 a3], [.int .i64 a2], rfl, rfl, ⟨[.int .i64 a2], [], rfl, rfl, rfl⟩⟩⟩⟩) rfl ?_)
     intro w hS
     have hC : Core B [Ass.box 96 b0 [.int .i64 a0.f0, .int .i64 a4, .int .i32 a3, .int .i64 a2], Ass.box 105 a6 [.slice a7 a5.length a8, .slice (some b5) a1.length a9], Ass.own 3 (Kd.int .i64) a7 a8 a5] [] _ := ⟨_, _, hS.re [3, 3, 3] [] rfl sub_self⟩
     refine ⟨hC, ?_⟩
     refine ED.keep [11, 34, 35, 36, 37, 38, 39, 40, 41, 42, 43] [(11, .pointer (some ⟨b0, 0, none⟩)), (34, .pointer (some ⟨a6, 1, none⟩)), (35, .slice (some b5) a1.length a9), (36, .int .i32 b4), (37, .int .i64 b3), (38, .pointer (some ((b5.add (b3.toNat * 1)).add 0))), (39, .slice (some c1) (a1.getD b3.toNat []).length b9), (40, .int .i32 b4), (41, .int .i64 b7), (42, .agg #[.int .i64 a0.f0, .int .i64 a4, .int .i32 a3, .int .i64 a2]), (43, .pointer (some ((c1.add (b7.toNat * 4)).add 0)))] (by kernel_rfl) ?_
     refine ED.as' [(11, .pointer (some ⟨b0, 0, none⟩)), (34, .pointer (some ⟨a6, 1, none⟩)), (35, .slice (some b5) a1.length a9), (36, .int .i32 b4), (37, .int .i64 b3), (38, .pointer (some ((b5.add (b3.toNat * 1)).add 0))), (39, .slice (some c1) b6.length b9), (40, .int .i32 b4), (41, .int .i64 b7), (42, .agg #[.int .i64 a0.f0, .int .i64 a4, .int .i32 a3, .int .i64 a2]), (43, .pointer (some ((c1.add (b7.toNat * 4)).add 0)))] (by simp only [c6, List.length_set]) ?_
     refine ED.done (by kernel_rfl) ?_
     have hS := St.as (os' := Ass.box 96 b0 [.int .i64 a0.f0, .int .i64 a4, .int .i32 a3, .int .i64 a2] :: Ass.box 105 a6 [.slice a7 a5.length a8, .slice (some b5) a1.length a9] :: Ass.own 3 (Kd.int .i64) a7 a8 a5 :: Ass.deep 94 96 kS96 (some b5) a9 (a1.set b3.toNat b6) :: os) (St.close hS 0 3 rfl rfl (len_set rfl c6) (a1.set b3.toNat b6) rfl) rfl
     have hS := St.as hS (os' := Ass.box 96 b0 [.int .i64 a0.f0, .int .i64 a4, .int .i32 a3, .int .i64 a2] :: Ass.box 105 a6 [.slice a7 a5.length a8, .slice (some b5) (a1.set b3.toNat b6).length a9] :: Ass.own 3 (Kd.int .i64) a7 a8 a5 :: Ass.deep 94 96 kS96 (some b5) a9 (a1.set b3.toNat b6) :: os) (by simp only [List.length_set])
     refine EQ.to ?_
     refine EQ.keep [] [] (by kernel_rfl) ?_
     exact fun a ha => ⟨ha, (hS.re [3, 3, 3, 3] [] rfl (sub_self))⟩
    ·refine EO.callD 68 [.int .i32 b4] _ 41 (by kernel_rfl) (by kernel_rfl) (by kernel_rfl) (confidantref9_Number.calls d9 hS) ?_
     rintro v w ⟨rfl, hS⟩
     have hC : Core B [Ass.box 96 b0 [.int .i64 a0.f0, .int .i64 a4, .int .i32 a3, .int .i64 a2], Ass.box 105 a6 [.slice a7 a5.length a8, .slice (some b5) a1.length a9], Ass.own 3 (Kd.int .i64) a7 a8 a5] [] _ := ⟨_, _, hS⟩
     refine ⟨hC, ?_⟩
     refine ED.at' #[true, true, true, true, true, true, true, false, true, true, true, false, false] (by kernel_rfl) ?_
     refine ED.one 7 2 #[true, true, true, true, true, true, true, true, true, true, true, false, false] (by kernel_rfl) (by kernel_rfl) (by kernel_rfl) (EO.openEl hS 3 b5 rfl b3 c9 d0 (fun d7 c0 => Ass.box 96 b0 [.int .i64 a0.f0, .int .i64 a4, .int .i32 a3, .int .i64 a2] :: Ass.box 105 a6 [.slice a7 a5.length a8, .slice (some b5) a1.length a9] :: Ass.own 3 (Kd.int .i64) a7 a8 a5 :: Ass.holed 94 96 kS96 (some b5) a9 a1 b3.toNat (d7, (a1.getD b3.toNat []).length, c0) :: os) 94 39 (by kernel_rfl) (by kernel_rfl) (by kernel_rfl) (by kernel_rfl) (fun _ _ => rfl) ?_)
     intro d7 c0 hS
     have hC : Core B [Ass.box 96 b0 [.int .i64 a0.f0, .int .i64 a4, .int .i32 a3, .int .i64 a2], Ass.box 105 a6 [.slice a7 a5.length a8, .slice (some b5) a1.length a9], Ass.own 3 (Kd.int .i64) a7 a8 a5] [] _ := ⟨_, _, hS.re [3, 3, 3] [] rfl sub_self⟩
     refine ⟨hC, ?_⟩
     obtain ⟨c2, rfl⟩ := St.rd_some hS (Rd.own 0 96 rfl) c4 c5
     refine ED.Y hN hF hC 11 1 #[true, true, true, true, true, true, true, true, true, true, true, true, false] (by kernel_rfl) (by kernel_rfl) rfl (fun _ _ _ hS => YO.idx 94 4 c2 (a1.getD b3.toNat []).length c0 .i64 b7 43 (by kernel_rfl) (by kernel_rfl) (by kernel_rfl) (by kernel_rfl) c4 c5) ?_
     refine ED.one 12 0 #[true, true, true, true, true, true, true, true, true, true, true, true, true] (by kernel_rfl) (by kernel_rfl) (by kernel_rfl) (EO.storeEl hS 0 kS96 96 c2 c0 (a1.getD b3.toNat []) rfl b7 c4 c5 zS96 96 4 0 rfl (.agg #[.int .i64 a0.f0, .int .i64 a4, .int .i32 a3, .int .i64 a2]) (⟨a0.f0, a4, a3, a2⟩ : S96) b6 c6 (Ass.own 96 kS96 (some c2) c0 b6 :: Ass.box 96 b0 [.int .i64 a0.f0, .int .i64 a4, .int .i32 a3, .int .i64 a2] :: Ass.box 105 a6 [.slice a7 a5.length a8, .slice (some b5) a1.length a9] :: Ass.own 3 (Kd.int .i64) a7 a8 a5 :: Ass.holed 94 96 kS96 (some b5) a9 a1 b3.toNat ((some c2), (a1.getD b3.toNat []).length, c0) :: os) (by kernel_rfl) (by kernel_rfl) (by kernel_rfl) (by kernel_rfl) (by kernel_rfl) (by kernel_rfl) (fun w G vs hr h => set_whole h (by kernel_rfl) ⟨[.int .i64 a0.f0], [.int .i64 a4, .int .i32 a3, .int .i64 a2], rfl, rfl, ⟨[.int .i64 a4], [.int .i32 a3, .int .i64 a2], rfl, rfl, ⟨[.int .i32 a3], [.int .i64 a2], rfl, rfl, ⟨[.int .i64 a2], [], rfl, rfl, rfl⟩⟩⟩⟩) rfl ?_)
     intro w hS
     have hC : Core B [Ass.box 96 b0 [.int .i64 a0.f0, .int .i64 a4, .int .i32 a3, .int .i64 a2], Ass.box 105 a6 [.slice a7 a5.length a8, .slice (some b5) a1.length a9], Ass.own 3 (Kd.int .i64) a7 a8 a5] [] _ := ⟨_, _, hS.re [3, 3, 3] [] rfl sub_self⟩
     refine ⟨hC, ?_⟩
     refine ED.keep [11, 34, 35, 36, 37, 38, 39, 40, 41, 42, 43] [(11, .pointer (some ⟨b0, 0, none⟩)), (34, .pointer (some ⟨a6, 1, none⟩)), (35, .slice (some b5) a1.length a9), (36, .int .i32 b4), (37, .int .i64 b3), (38, .pointer (some ((b5.add (b3.toNat * 1)).add 0))), (39, .slice (some c2) (a1.getD b3.toNat []).length c0), (40, .int .i32 b4), (41, .int .i64 b7), (42, .agg #[.int .i64 a0.f0, .int .i64 a4, .int .i32 a3, .int .i64 a2]), (43, .pointer (some ((c2.add (b7.toNat * 4)).add 0)))] (by kernel_rfl) ?_
     refine ED.as' [(11, .pointer (some ⟨b0, 0, none⟩)), (34, .pointer (some ⟨a6, 1, none⟩)), (35, .slice (some b5) a1.length a9), (36, .int .i32 b4), (37, .int .i64 b3), (38, .pointer (some ((b5.add (b3.toNat * 1)).add 0))), (39, .slice (some c2) b6.length c0), (40, .int .i32 b4), (41, .int .i64 b7), (42, .agg #[.int .i64 a0.f0, .int .i64 a4, .int .i32 a3, .int .i64 a2]), (43, .pointer (some ((c2.add (b7.toNat * 4)).add 0)))] (by simp only [c6, List.length_set]) ?_
     refine ED.done (by kernel_rfl) ?_
     have hS := St.as (os' := Ass.box 96 b0 [.int .i64 a0.f0, .int .i64 a4, .int .i32 a3, .int .i64 a2] :: Ass.box 105 a6 [.slice a7 a5.length a8, .slice (some b5) a1.length a9] :: Ass.own 3 (Kd.int .i64) a7 a8 a5 :: Ass.deep 94 96 kS96 (some b5) a9 (a1.set b3.toNat b6) :: os) (St.close hS 0 3 rfl rfl (len_set rfl c6) (a1.set b3.toNat b6) rfl) rfl
     have hS := St.as hS (os' := Ass.box 96 b0 [.int .i64 a0.f0, .int .i64 a4, .int .i32 a3, .int .i64 a2] :: Ass.box 105 a6 [.slice a7 a5.length a8, .slice (some b5) (a1.set b3.toNat b6).length a9] :: Ass.own 3 (Kd.int .i64) a7 a8 a5 :: Ass.deep 94 96 kS96 (some b5) a9 (a1.set b3.toNat b6) :: os) (by simp only [List.length_set])
     refine EQ.to ?_
     refine EQ.keep [] [] (by kernel_rfl) ?_
     exact fun a ha => ⟨ha, (hS.re [3, 3, 3, 3] [] rfl (sub_self))⟩
   ·obtain ⟨ha, hS⟩ := hI
    refine EQ.at ?_ a ha
    clear ha a
    refine EQ.code ?_
    refine EW.seq (x := Cd49.r.r.r.r.r.l) (y := Cd49.r.r.r.r.r.r) (by kernel_rfl) ?_
    refine EW.region (id := 6) (ops := Cd49.r.r.r.r.r.l.ops) (by kernel_rfl) ?_
    refine EL.quick 1 [10] [(10, .bool (true))] (by kernel_rfl) ?_
    refine EL.done (by kernel_rfl) ?_
    refine EQ.code ?_
    refine EW.ret (by kernel_rfl) ?_
    simp only [Option.some.injEq, Prod.mk.injEq] at H
    obtain ⟨rfl, rfl⟩ := H
    exact EQ.leave (.bool (true)) (by kernel_rfl) ⟨_, rfl, (some b5), a9, rfl, (hS.re [3, 3, 3] [3] rfl (sub_self))⟩

/-! ### (*confidant/confidantref12.Futures).Keep: function 22 -/
def confidantref12_Futures_Keep.f (K : Nat) (a3 : List Int) (a4 : List (List S96)) (a0 : Int) (a1 : Int) : Option (List (List S96) × Bool) := b2 (confidantref12_Futures_end.f K a3 a4 a0 1 a1 0) fun (b4 : List (List S96)) (a7 : Bool) => (some (b4, a7))
set_option maxRecDepth 100000 in
theorem confidantref12_Futures_Keep.calls {K : Nat} {a3 : List Int} {a4 : List (List S96)} {a0 : Int} {a1 : Int} {a2 : Nat} {a5 : Option Addr} {a6 : Nat} {a9 : Option Addr} {b1 : Nat} {a8 : List (List S96)} {b5 : Bool} {B w : World} {os : List Ass} {rs : List Ro} (H : confidantref12_Futures_Keep.f K a3 a4 a0 a1 = some (a8, b5)) (hS : St B w (Ass.box 105 a2 [.slice a5 a3.length a6, .slice a9 a4.length b1] :: Ass.own 3 (Kd.int .i64) a5 a6 a3 :: Ass.deep 94 96 kS96 a9 b1 a4 :: os) (rs)) :
  Calls Try.prog 22 [.pointer (some ⟨a2, 0, none⟩), .int .i32 a0, .int .i32 a1].toArray w (fun en w' => ∃ v, en = .returned v ∧ ∃ b0 : Option Addr, ∃ b3 : Nat, v = .bool (b5) ∧ St B w' (Ass.box 105 a2 [.slice a5 a3.length a6, .slice b0 a8.length b3] :: Ass.own 3 (Kd.int .i64) a5 a6 a3 :: Ass.deep 94 96 kS96 b0 b3 a8 :: os) (rs)) := by
 unfold confidantref12_Futures_Keep.f at H
 refine calls_of_EW (args := [.pointer (some ⟨a2, 0, none⟩), .int .i32 a0, .int .i32 a1]) (c := Cd22) 11 Try.func22 (by kernel_rfl) (by kernel_rfl) (by kernel_rfl) ?_
 refine EW.seq (x := Cd22.l) (y := Cd22.r) (by kernel_rfl) ?_
 refine EW.region (id := 0) (ops := Cd22.l.ops) (by kernel_rfl) ?_
 refine EL.quick 1 [0, 1, 2] [(0, .pointer (some ⟨a2, 0, none⟩)), (1, .int .i32 a0), (2, .int .i32 a1)] (by kernel_rfl) ?_
 refine EL.done (by kernel_rfl) ?_
 refine EQ.code ?_
 refine EW.seq (x := Cd22.r.l) (y := Cd22.r.r) (by kernel_rfl) ?_
 refine EW.region (id := 1) (ops := Cd22.r.l.ops) (by kernel_rfl) ?_
 refine EL.quick 3 [7, 8, 9] [(7, .pointer (some ⟨a2, 0, none⟩)), (8, .int .i32 a0), (9, .int .i32 a1)] (by kernel_rfl) ?_
 obtain ⟨b4, a7, b8, H⟩ := b2_out H
 refine EL.of (EO.callD 49 [.pointer (some ⟨a2, 0, none⟩), .int .i32 a0, .int .i64 1, .int .i32 a1, .int .i64 0] _ 10 (by kernel_rfl) (by kernel_rfl) (by kernel_rfl) (confidantref12_Futures_end.calls b8 hS) ?_)
 rintro v w ⟨b6, b7, rfl, hS⟩
 refine EL.quick 1 [6] [(6, .bool (a7))] (by kernel_rfl) ?_
 refine EL.done (by kernel_rfl) ?_
 refine EQ.code ?_
 refine EW.ret (by kernel_rfl) ?_
 simp only [Option.some.injEq, Prod.mk.injEq] at H
 obtain ⟨rfl, rfl⟩ := H
 exact EQ.leave (.bool (a7)) (by kernel_rfl) ⟨_, rfl, b6, b7, rfl, (hS.re [2, 2, 2] [] rfl (sub_self))⟩

/-! ### (*confidant/future.Futures).Break: function 23 -/
def future_Futures_Break.f (K : Nat) (a2 : List (List S96)) (a6 : List Int) (b2 : Int) (a5 : Int) : Option (List (List S96) × Bool) := lt (fun (c3 : List (List S96)) (b9 : Bool) => (some (c3, b9))) fun c5 => (b1 (ident_Label.f K b2) fun (a1 : Int) => (b1 (ident_Number.f K b2) fun (a0 : Int) => (lt (fun (c4 : Bool) => (if c4 = true then (c5 a2 false) else (if 0 ≤ a1 then (if a1 < (a2.length : Int) then (if 0 ≤ a0 then (if a0 < ((a2.getD a1.toNat []).length : Int) then (if (((a2.getD a1.toNat []).getD a0.toNat zS96).f1) = 0 then (lt ((a2.getD a1.toNat []).set a0.toNat (⟨((a2.getD a1.toNat []).getD a0.toNat zS96).f0, 2, ((a2.getD a1.toNat []).getD a0.toNat zS96).f2, ((a2.getD a1.toNat []).getD a0.toNat zS96).f3⟩ : S96)) fun b4 => (lt (b4.set a0.toNat (⟨(b4.getD a0.toNat zS96).f0, (b4.getD a0.toNat zS96).f1, 0, (b4.getD a0.toNat zS96).f3⟩ : S96)) fun b5 => (lt (b5.set a0.toNat (⟨(b5.getD a0.toNat zS96).f0, (b5.getD a0.toNat zS96).f1, (b5.getD a0.toNat zS96).f2, a5⟩ : S96)) fun b8 => (c5 (a2.set a1.toNat b8) true)))) else (c5 a2 false)) else none) else none) else none) else none))) fun c6 => (if a1 < 0 then (c6 true) else (if a1 ≥ (a2.length : Int) then (c6 true) else (if 0 ≤ a1 then (if a1 < (a2.length : Int) then (c6 (decide (a0 ≥ ((a2.getD a1.toNat []).length : Int)))) else none) else none))))))
set_option maxRecDepth 100000 in
theorem future_Futures_Break.calls {K : Nat} {a2 : List (List S96)} {a6 : List Int} {b2 : Int} {a5 : Int} {a3 : Nat} {b7 : Option Addr} {a4 : Nat} {a7 : Option Addr} {a8 : Nat} {c7 : List (List S96)} {d3 : Bool} {B w : World} {os : List Ass} {rs : List Ro} (H : future_Futures_Break.f K a2 a6 b2 a5 = some (c7, d3)) (hS : St B w (Ass.box 91 a3 [.slice b7 a2.length a4, .slice a7 a6.length a8] :: Ass.deep 94 96 kS96 b7 a4 a2 :: Ass.own 3 (Kd.int .i64) a7 a8 a6 :: os) (rs)) :
  Calls Try.prog 23 [.pointer (some ⟨a3, 0, none⟩), .int .i32 b2, .int .i64 a5].toArray w (fun en w' => ∃ v, en = .returned v ∧ ∃ e2 : Option Addr, ∃ e4 : Nat, v = .bool (d3) ∧ St B w' (Ass.box 91 a3 [.slice e2 c7.length e4, .slice a7 a6.length a8] :: Ass.deep 94 96 kS96 e2 e4 c7 :: Ass.own 3 (Kd.int .i64) a7 a8 a6 :: os) (rs)) := by
 unfold future_Futures_Break.f at H
 refine calls_of_EW (args := [.pointer (some ⟨a3, 0, none⟩), .int .i32 b2, .int .i64 a5]) (c := Cd23) 13 Try.func23 (by kernel_rfl) (by kernel_rfl) (by kernel_rfl) ?_
 refine EW.seq (x := Cd23.l) (y := Cd23.r) (by kernel_rfl) ?_
 refine EW.region (id := 0) (ops := Cd23.l.ops) (by kernel_rfl) ?_
 refine EL.quick 1 [0, 1, 2] [(0, .pointer (some ⟨a3, 0, none⟩)), (1, .int .i32 b2), (2, .int .i64 a5)] (by kernel_rfl) ?_
 refine EL.done (by kernel_rfl) ?_
 refine EQ.code ?_
 refine EW.seq (x := Cd23.r.l) (y := Cd23.r.r) (by kernel_rfl) ?_
 refine EW.region (id := 1) (ops := Cd23.r.l.ops) (by kernel_rfl) ?_
 refine EL.quick 5 [7, 8, 11] [(7, .pointer (some ⟨a3, 0, none⟩)), (8, .int .i32 b2), (11, .func (.func 43) #[.agg #[.int .i64 2, .int .i32 0, .int .i64 a5]] #[])] (by kernel_rfl) ?_
 obtain ⟨c5, e9, H⟩ := lt_out H
 refine EL.of (EO.callD 42 [.pointer (some ⟨a3, 0, none⟩), .int .i32 b2, .func (.func 43) #[.agg #[.int .i64 2, .int .i32 0, .int .i64 a5]] #[]] (fun v w => ∃ c3 : List (List S96), ∃ b9 : Bool, ∃ c8 : Option Addr, ∃ c9 : Nat, v = .bool (b9) ∧ St B w (Ass.box 91 a3 [.slice c8 c3.length c9, .slice a7 a6.length a8] :: Ass.deep 94 96 kS96 c8 c9 c3 :: Ass.own 3 (Kd.int .i64) a7 a8 a6 :: os) (rs) ∧ c5 c3 b9 = some (c7, d3)) 12 (by kernel_rfl) (by kernel_rfl) (by kernel_rfl) ?_ ?_)
 ·refine calls_of_EW (args := [.pointer (some ⟨a3, 0, none⟩), .int .i32 b2, .func (.func 43) #[.agg #[.int .i64 2, .int .i32 0, .int .i64 a5]] #[]]) (c := Cd42) 23 Try.func42 (by kernel_rfl) (by kernel_rfl) (by kernel_rfl) ?_
  refine EW.seq (x := Cd42.l) (y := Cd42.r) (by kernel_rfl) ?_
  refine EW.region (id := 0) (ops := Cd42.l.ops) (by kernel_rfl) ?_
  refine EL.quick 1 [0, 1, 2] [(0, .pointer (some ⟨a3, 0, none⟩)), (1, .int .i32 b2), (2, .func (.func 43) #[.agg #[.int .i64 2, .int .i32 0, .int .i64 a5]] #[])] (by kernel_rfl) ?_
  refine EL.done (by kernel_rfl) ?_
  refine EQ.code ?_
  refine EW.seq (x := Cd42.r.l) (y := Cd42.r.r) (by kernel_rfl) ?_
  refine EW.region (id := 1) (ops := Cd42.r.l.ops) (by kernel_rfl) ?_
  refine EL.quick 2 [2, 8, 9] [(2, .func (.func 43) #[.agg #[.int .i64 2, .int .i32 0, .int .i64 a5]] #[]), (8, .pointer (some ⟨a3, 0, none⟩)), (9, .int .i32 b2)] (by kernel_rfl) ?_
  refine EL.inline 64 [.pointer (some ⟨a3, 0, none⟩), .int .i32 b2] 10 (by kernel_rfl) (by kernel_rfl) (by kernel_rfl) ?_
  refine calls_of_EW (args := [.pointer (some ⟨a3, 0, none⟩), .int .i32 b2]) (c := Cd64) 43 Try.func64 (by kernel_rfl) (by kernel_rfl) (by kernel_rfl) ?_
  refine EW.seq (x := Cd64.l) (y := Cd64.r) (by kernel_rfl) ?_
  refine EW.region (id := 0) (ops := Cd64.l.ops) (by kernel_rfl) ?_
  refine EL.quick 1 [0, 1] [(0, .pointer (some ⟨a3, 0, none⟩)), (1, .int .i32 b2)] (by kernel_rfl) ?_
  refine EL.done (by kernel_rfl) ?_
  refine EQ.code ?_
  refine EW.seq (x := Cd64.r.l) (y := Cd64.r.r) (by kernel_rfl) ?_
  refine EW.region (id := 1) (ops := Cd64.r.l.ops) (by kernel_rfl) ?_
  refine EL.quick 1 [0, 1, 7] [(0, .pointer (some ⟨a3, 0, none⟩)), (1, .int .i32 b2), (7, .int .i32 b2)] (by kernel_rfl) ?_
  obtain ⟨a1, e7, H⟩ := b1_out H
  refine EL.of (EO.callD 73 [.int .i32 b2] _ 8 (by kernel_rfl) (by kernel_rfl) (by kernel_rfl) (ident_Label.calls e7 hS) ?_)
  rintro v w ⟨rfl, hS⟩
  refine EL.quick 1 [0, 8, 9] [(0, .pointer (some ⟨a3, 0, none⟩)), (8, .int .i64 a1), (9, .int .i32 b2)] (by kernel_rfl) ?_
  obtain ⟨a0, e8, H⟩ := b1_out H
  refine EL.of (EO.callD 74 [.int .i32 b2] _ 10 (by kernel_rfl) (by kernel_rfl) (by kernel_rfl) (ident_Number.calls e8 hS) ?_)
  rintro v w ⟨rfl, hS⟩
  refine EL.quick 2 [0, 5, 6] [(0, .pointer (some ⟨a3, 0, none⟩)), (5, .int .i64 a1), (6, .int .i64 a0)] (by kernel_rfl) ?_
  refine EL.done (by kernel_rfl) ?_
  refine EQ.code ?_
  refine EW.seq (x := Cd64.r.r.l) (y := Cd64.r.r.r) (by kernel_rfl) ?_
  obtain ⟨c6, f4, H⟩ := lt_out H
  refine EW.cut (x := Cd64.r.r.l.l) (y := Cd64.r.r.l.r) (fun a w => ∃ c4 : Bool, Sat 43 [(0, .pointer (some ⟨a3, 0, none⟩)), (5, .int .i64 a1), (6, .int .i64 a0), (33, .bool (c4))] a ∧ St B w (Ass.box 91 a3 [.slice b7 a2.length a4, .slice a7 a6.length a8] :: Ass.deep 94 96 kS96 b7 a4 a2 :: Ass.own 3 (Kd.int .i64) a7 a8 a6 :: os) (rs) ∧ c6 c4 = some (c7, d3)) (by kernel_rfl) ?_ (fun a w hI => ?_)
  ·refine EW.region (id := 2) (ops := Cd64.r.r.l.l.ops) (by kernel_rfl) ?_
   refine EL.quick 3 [0, 5, 6, 13] [(0, .pointer (some ⟨a3, 0, none⟩)), (5, .int .i64 a1), (6, .int .i64 a0), (13, .bool (decide (a1 < 0)))] (by kernel_rfl) ?_
   by_cases d0 : a1 < 0
   ·rw [if_pos d0] at H
    refine EL.keep [0, 5, 6, 13] [(0, .pointer (some ⟨a3, 0, none⟩)), (5, .int .i64 a1), (6, .int .i64 a0), (13, .bool (decide (a1 < 0)))] (by kernel_rfl) ?_
    refine EL.as' [(0, .pointer (some ⟨a3, 0, none⟩)), (5, .int .i64 a1), (6, .int .i64 a0), (13, .bool (true))] (by simp only [dec_t d0, Bool.not_true, Bool.not_false]) ?_
    refine EL.quick 20 [0, 5, 6, 33] [(0, .pointer (some ⟨a3, 0, none⟩)), (5, .int .i64 a1), (6, .int .i64 a0), (33, .bool (true))] (by kernel_rfl) ?_
    refine EL.done (by kernel_rfl) ?_
    refine EQ.to ?_
    refine EQ.keep [0, 5, 6, 33] [(0, .pointer (some ⟨a3, 0, none⟩)), (5, .int .i64 a1), (6, .int .i64 a0), (33, .bool (true))] (by kernel_rfl) ?_
    exact fun a ha => ⟨true, ha, (hS.re [2, 2, 2] [] rfl (sub_self)), H⟩
   ·rw [if_neg d0] at H
    refine EL.keep [0, 5, 6, 13] [(0, .pointer (some ⟨a3, 0, none⟩)), (5, .int .i64 a1), (6, .int .i64 a0), (13, .bool (decide (a1 < 0)))] (by kernel_rfl) ?_
    refine EL.as' [(0, .pointer (some ⟨a3, 0, none⟩)), (5, .int .i64 a1), (6, .int .i64 a0), (13, .bool (false))] (by simp only [dec_f d0, Bool.not_true, Bool.not_false]) ?_
    refine EL.quick 4 [0, 5, 6, 13, 14, 17] [(0, .pointer (some ⟨a3, 0, none⟩)), (5, .int .i64 a1), (6, .int .i64 a0), (13, .bool (false)), (14, .int .i64 a1), (17, .pointer (some ⟨a3, 0, none⟩))] (by kernel_rfl) ?_
    refine EL.of (EO.Y (YO.loadBox hS 0 rfl 89 0 1 (.slice b7 a2.length a4) 18 (by kernel_rfl) (by kernel_rfl) (by kernel_rfl) (by kernel_rfl)) ?_)
    refine EL.quick 4 [0, 5, 6, 22] [(0, .pointer (some ⟨a3, 0, none⟩)), (5, .int .i64 a1), (6, .int .i64 a0), (22, .bool (decide (a1 ≥ (a2.length : Int))))] (by kernel_rfl) ?_
    by_cases d1 : a1 ≥ (a2.length : Int)
    ·rw [if_pos d1] at H
     refine EL.keep [0, 5, 6, 22] [(0, .pointer (some ⟨a3, 0, none⟩)), (5, .int .i64 a1), (6, .int .i64 a0), (22, .bool (decide (a1 ≥ (a2.length : Int))))] (by kernel_rfl) ?_
     refine EL.as' [(0, .pointer (some ⟨a3, 0, none⟩)), (5, .int .i64 a1), (6, .int .i64 a0), (22, .bool (true))] (by simp only [dec_t d1, Bool.not_true, Bool.not_false]) ?_
     refine EL.quick 11 [0, 5, 6, 33] [(0, .pointer (some ⟨a3, 0, none⟩)), (5, .int .i64 a1), (6, .int .i64 a0), (33, .bool (true))] (by kernel_rfl) ?_
     refine EL.done (by kernel_rfl) ?_
     refine EQ.to ?_
     refine EQ.keep [0, 5, 6, 33] [(0, .pointer (some ⟨a3, 0, none⟩)), (5, .int .i64 a1), (6, .int .i64 a0), (33, .bool (true))] (by kernel_rfl) ?_
     exact fun a ha => ⟨true, ha, (hS.re [2, 2, 2] [] rfl (sub_self)), H⟩
    ·rw [if_neg d1] at H
     refine EL.keep [0, 5, 6, 22] [(0, .pointer (some ⟨a3, 0, none⟩)), (5, .int .i64 a1), (6, .int .i64 a0), (22, .bool (decide (a1 ≥ (a2.length : Int))))] (by kernel_rfl) ?_
     refine EL.as' [(0, .pointer (some ⟨a3, 0, none⟩)), (5, .int .i64 a1), (6, .int .i64 a0), (22, .bool (false))] (by simp only [dec_f d1, Bool.not_true, Bool.not_false]) ?_
     refine EL.quick 4 [0, 5, 6, 22, 23, 26] [(0, .pointer (some ⟨a3, 0, none⟩)), (5, .int .i64 a1), (6, .int .i64 a0), (22, .bool (false)), (23, .int .i64 a0), (26, .pointer (some ⟨a3, 0, none⟩))] (by kernel_rfl) ?_
     refine EL.of (EO.Y (YO.loadBox hS 0 rfl 89 0 1 (.slice b7 a2.length a4) 27 (by kernel_rfl) (by kernel_rfl) (by kernel_rfl) (by kernel_rfl)) ?_)
     refine EL.quick 1 [0, 5, 6, 22, 23, 27, 28] [(0, .pointer (some ⟨a3, 0, none⟩)), (5, .int .i64 a1), (6, .int .i64 a0), (22, .bool (false)), (23, .int .i64 a0), (27, .slice b7 a2.length a4), (28, .int .i64 a1)] (by kernel_rfl) ?_
     obtain ⟨d5, H⟩ := ite_in H
     obtain ⟨d6, H⟩ := ite_in H
     obtain ⟨c0, rfl⟩ := St.deep_some hS 1 rfl d5 d6
     refine EL.of (EO.Y (YO.idx 89 1 c0 a2.length a4 .i64 a1 29 (by kernel_rfl) (by kernel_rfl) (by kernel_rfl) (by kernel_rfl) d5 d6) ?_)
     refine EL.of (EO.openEl hS 1 c0 rfl a1 d5 d6 (fun e3 e5 => Ass.box 91 a3 [.slice (some c0) a2.length a4, .slice a7 a6.length a8] :: Ass.holed 94 96 kS96 (some c0) a4 a2 a1.toNat (e3, (a2.getD a1.toNat []).length, e5) :: Ass.own 3 (Kd.int .i64) a7 a8 a6 :: os) 94 30 (by kernel_rfl) (by kernel_rfl) (by kernel_rfl) (by kernel_rfl) (fun _ _ => rfl) ?_)
     intro e3 e5 hS
     refine EL.quick 3 [0, 5, 6, 33] [(0, .pointer (some ⟨a3, 0, none⟩)), (5, .int .i64 a1), (6, .int .i64 a0), (33, .bool (decide (a0 ≥ ((a2.getD a1.toNat []).length : Int))))] (by kernel_rfl) ?_
     refine EL.done (by kernel_rfl) ?_
     refine EQ.to ?_
     have hS := St.as (os' := Ass.box 91 a3 [.slice (some c0) a2.length a4, .slice a7 a6.length a8] :: Ass.deep 94 96 kS96 (some c0) a4 a2 :: Ass.own 3 (Kd.int .i64) a7 a8 a6 :: os) (St.close hS 0 1 rfl rfl rfl a2 (set_getD _ _)) rfl
     refine EQ.keep [0, 5, 6, 33] [(0, .pointer (some ⟨a3, 0, none⟩)), (5, .int .i64 a1), (6, .int .i64 a0), (33, .bool (decide (a0 ≥ ((a2.getD a1.toNat []).length : Int))))] (by kernel_rfl) ?_
     exact fun a ha => ⟨decide (a0 ≥ ((a2.getD a1.toNat []).length : Int)), ha, (hS.re [2, 2, 2] [] rfl (sub_self)), H⟩
  ·obtain ⟨c4, ha, hS, H⟩ := hI
   rw [f4] at H
   (try dsimp only at H)
   refine EW.at ?_ a ha
   clear ha a
   refine EW.condP' (o := (.tmp 33)) (x := Cd64.r.r.l.r.l) (y := Cd64.r.r.l.r.r) (c4) (by kernel_rfl) (by kernel_rfl) (fun d7 => ?_) (fun d7 => ?_)
   ·rw [if_pos d7] at H
    refine EW.seq (x := Cd64.r.r.l.r.l.l) (y := Cd64.r.r.l.r.l.r) (by kernel_rfl) ?_
    refine EW.region (id := 3) (ops := Cd64.r.r.l.r.l.l.ops) (by kernel_rfl) ?_
    refine EL.quick 1 [4] [(4, .pointer none)] (by kernel_rfl) ?_
    refine EL.done (by kernel_rfl) ?_
    refine EQ.code ?_
    refine EW.ret (by kernel_rfl) ?_
    refine EQ.ret ?_
    refine EQ.leave (.pointer none) (by kernel_rfl) ⟨_, rfl, ?_⟩
    refine EL.quick 1 [2, 7] [(2, .func (.func 43) #[.agg #[.int .i64 2, .int .i32 0, .int .i64 a5]] #[]), (7, .pointer none)] (by kernel_rfl) ?_
    refine EL.done (by kernel_rfl) ?_
    refine EQ.code ?_
    refine EW.seq (x := Cd42.r.r.l) (y := Cd42.r.r.r) (by kernel_rfl) ?_
    refine EW.seq (x := Cd42.r.r.l.l) (y := Cd42.r.r.l.r) (by kernel_rfl) ?_
    refine EW.region (id := 2) (ops := Cd42.r.r.l.l.ops) (by kernel_rfl) ?_
    refine EL.quick 9 [2, 7, 19] [(2, .func (.func 43) #[.agg #[.int .i64 2, .int .i32 0, .int .i64 a5]] #[]), (7, .pointer none), (19, .bool (true))] (by kernel_rfl) ?_
    refine EL.done (by kernel_rfl) ?_
    refine EQ.code ?_
    refine EW.condT (o := (.tmp 19)) (x := Cd42.r.r.l.r.l) (y := Cd42.r.r.l.r.r) (by kernel_rfl) (by kernel_rfl) ?_
    refine EW.seq (x := Cd42.r.r.l.r.l.l) (y := Cd42.r.r.l.r.l.r) (by kernel_rfl) ?_
    refine EW.region (id := 3) (ops := Cd42.r.r.l.r.l.l.ops) (by kernel_rfl) ?_
    refine EL.quick 1 [6] [(6, .bool (false))] (by kernel_rfl) ?_
    refine EL.done (by kernel_rfl) ?_
    refine EQ.code ?_
    refine EW.ret (by kernel_rfl) ?_
    refine EQ.ret ?_
    exact EQ.leave (.bool (false)) (by kernel_rfl) ⟨_, rfl, a2, false, b7, a4, rfl, (hS.re [2, 2, 2] [] rfl (sub_self)), H⟩
   ·rw [if_neg d7] at H
    refine EW.skip (by kernel_rfl) ?_
    refine EQ.code ?_
    refine EW.seq (x := Cd64.r.r.r.l) (y := Cd64.r.r.r.r) (by kernel_rfl) ?_
    refine EW.region (id := 4) (ops := Cd64.r.r.r.l.ops) (by kernel_rfl) ?_
    refine EL.quick 3 [5, 6, 36] [(5, .int .i64 a1), (6, .int .i64 a0), (36, .pointer (some ⟨a3, 0, none⟩))] (by kernel_rfl) ?_
    refine EL.of (EO.Y (YO.loadBox hS 0 rfl 89 0 1 (.slice b7 a2.length a4) 37 (by kernel_rfl) (by kernel_rfl) (by kernel_rfl) (by kernel_rfl)) ?_)
    refine EL.quick 1 [6, 37, 38] [(6, .int .i64 a0), (37, .slice b7 a2.length a4), (38, .int .i64 a1)] (by kernel_rfl) ?_
    obtain ⟨d8, H⟩ := ite_in H
    obtain ⟨d9, H⟩ := ite_in H
    obtain ⟨b0, rfl⟩ := St.deep_some hS 1 rfl d8 d9
    refine EL.of (EO.Y (YO.idx 89 1 b0 a2.length a4 .i64 a1 39 (by kernel_rfl) (by kernel_rfl) (by kernel_rfl) (by kernel_rfl) d8 d9) ?_)
    refine EL.of (EO.openEl hS 1 b0 rfl a1 d8 d9 (fun d4 b3 => Ass.box 91 a3 [.slice (some b0) a2.length a4, .slice a7 a6.length a8] :: Ass.holed 94 96 kS96 (some b0) a4 a2 a1.toNat (d4, (a2.getD a1.toNat []).length, b3) :: Ass.own 3 (Kd.int .i64) a7 a8 a6 :: os) 94 40 (by kernel_rfl) (by kernel_rfl) (by kernel_rfl) (by kernel_rfl) (fun _ _ => rfl) ?_)
    intro d4 b3 hS
    refine EL.quick 1 [40, 41] [(40, .slice d4 (a2.getD a1.toNat []).length b3), (41, .int .i64 a0)] (by kernel_rfl) ?_
    obtain ⟨c1, H⟩ := ite_in H
    obtain ⟨c2, H⟩ := ite_in H
    obtain ⟨a9, rfl⟩ := St.rd_some hS (Rd.own 0 96 rfl) c1 c2
    refine EL.of (EO.Y (YO.idx 94 4 a9 (a2.getD a1.toNat []).length b3 .i64 a0 42 (by kernel_rfl) (by kernel_rfl) (by kernel_rfl) (by kernel_rfl) c1 c2) ?_)
    refine EL.quick 1 [4] [(4, .pointer (some ((a9.add (a0.toNat * 4)).add 0)))] (by kernel_rfl) ?_
    refine EL.done (by kernel_rfl) ?_
    refine EQ.code ?_
    refine EW.ret (by kernel_rfl) ?_
    refine EQ.leave (.pointer (some ((a9.add (a0.toNat * 4)).add 0))) (by kernel_rfl) ⟨_, rfl, ?_⟩
    refine EL.quick 1 [2, 7] [(2, .func (.func 43) #[.agg #[.int .i64 2, .int .i32 0, .int .i64 a5]] #[]), (7, .pointer (some ((a9.add (a0.toNat * 4)).add 0)))] (by kernel_rfl) ?_
    refine EL.done (by kernel_rfl) ?_
    refine EQ.code ?_
    refine EW.seq (x := Cd42.r.r.l) (y := Cd42.r.r.r) (by kernel_rfl) ?_
    refine EW.seq (x := Cd42.r.r.l.l) (y := Cd42.r.r.l.r) (by kernel_rfl) ?_
    refine EW.region (id := 2) (ops := Cd42.r.r.l.l.ops) (by kernel_rfl) ?_
    refine EL.quick 6 [2, 7, 13, 16] [(2, .func (.func 43) #[.agg #[.int .i64 2, .int .i32 0, .int .i64 a5]] #[]), (7, .pointer (some ((a9.add (a0.toNat * 4)).add 0))), (13, .bool (false)), (16, .pointer (some ((a9.add (a0.toNat * 4)).add 1)))] (by kernel_rfl) ?_
    refine EL.of (EO.Y (YO.loadEl hS kS96 a9 b3 (a2.getD a1.toNat []) (Rd.own 0 96 rfl) zS96 encS96 encS96_of a0 c1 c2 3 4 1 1 rfl (.int .i64 (((a2.getD a1.toNat []).getD a0.toNat zS96).f1)) 17 (by kernel_rfl) (by kernel_rfl) (by kernel_rfl) (by kernel_rfl)) ?_)
    refine EL.quick 2 [2, 7, 19] [(2, .func (.func 43) #[.agg #[.int .i64 2, .int .i32 0, .int .i64 a5]] #[]), (7, .pointer (some ((a9.add (a0.toNat * 4)).add 0))), (19, .bool (!(decide ((((a2.getD a1.toNat []).getD a0.toNat zS96).f1) = 0))))] (by kernel_rfl) ?_
    refine EL.done (by kernel_rfl) ?_
    refine EQ.code ?_
    refine EW.condQ (b := !(decide ((((a2.getD a1.toNat []).getD a0.toNat zS96).f1) = 0))) (o := (.tmp 19)) (x := Cd42.r.r.l.r.l) (y := Cd42.r.r.l.r.r) ((((a2.getD a1.toNat []).getD a0.toNat zS96).f1) = 0) (false) (by kernel_rfl) (by kernel_rfl) ⟨fun h => (by rw [decide_eq_true h] <;> rfl), fun h => (by rw [decide_eq_false h] <;> rfl)⟩ (fun e0 => ?_) (fun e0 => ?_)
    ·rw [if_pos e0] at H
     refine EW.skip (by kernel_rfl) ?_
     refine EQ.code ?_
     refine EW.seq (x := Cd42.r.r.r.l) (y := Cd42.r.r.r.r) (by kernel_rfl) ?_
     refine EW.region (id := 4) (ops := Cd42.r.r.r.l.ops) (by kernel_rfl) ?_
     refine EL.quick 2 [20, 21] [(20, .func (.func 43) #[.agg #[.int .i64 2, .int .i32 0, .int .i64 a5]] #[]), (21, .pointer (some ((a9.add (a0.toNat * 4)).add 0)))] (by kernel_rfl) ?_
     refine EL.inline 43 [.agg #[.int .i64 2, .int .i32 0, .int .i64 a5], .pointer (some ((a9.add (a0.toNat * 4)).add 0))] 22 (by kernel_rfl) (by kernel_rfl) (by kernel_rfl) ?_
     refine calls_of_EW (args := [.agg #[.int .i64 2, .int .i32 0, .int .i64 a5], .pointer (some ((a9.add (a0.toNat * 4)).add 0))]) (c := Cd43) 19 Try.func43 (by kernel_rfl) (by kernel_rfl) (by kernel_rfl) ?_
     refine EW.seq (x := Cd43.l) (y := Cd43.r) (by kernel_rfl) ?_
     refine EW.region (id := 0) (ops := Cd43.l.ops) (by kernel_rfl) ?_
     refine EL.of (EO.box hS 100 (.agg #[.int .i64 2, .int .i32 0, .int .i64 a5]) [.int .i64 2, .int .i32 0, .int .i64 a5] 2 (by kernel_rfl) (by kernel_rfl) (by kernel_rfl) (by first | rfl | kernel_rfl) ?_)
     intro b6 w hS
     refine EL.done (by kernel_rfl) ?_
     refine EQ.code ?_
     obtain ⟨b4, d2, H⟩ := lt_out H
     obtain ⟨b5, e1, H⟩ := lt_out H
     obtain ⟨b8, e6, H⟩ := lt_out H
     have hS := hS.drew
     refine EW.draw (B := B) (id := 1) (ops := Cd43.r.ops) [Ass.box 100 b6 [.int .i64 2, .int .i32 0, .int .i64 a5], Ass.box 91 a3 [.slice (some b0) a2.length a4, .slice a7 a6.length a8], Ass.holed 94 96 kS96 (some b0) a4 a2 a1.toNat ((some a9), (a2.getD a1.toNat []).length, b3), Ass.own 3 (Kd.int .i64) a7 a8 a6] [] (by kernel_rfl) (by kernel_rfl) ?_
     have hN : Region.noSelect Cd43.r.ops = true := (by kernel_rfl)
     have hF : freeAll Cd43.r.ops = true := (by kernel_rfl)
     have hC : Core B [Ass.box 100 b6 [.int .i64 2, .int .i32 0, .int .i64 a5], Ass.box 91 a3 [.slice (some b0) a2.length a4, .slice a7 a6.length a8], Ass.holed 94 96 kS96 (some b0) a4 a2 a1.toNat ((some a9), (a2.getD a1.toNat []).length, b3), Ass.own 3 (Kd.int .i64) a7 a8 a6] [] _ := ⟨_, _, hS.re [4, 4, 4, 3] [] rfl sub_self⟩
     refine ED.quick hN hF hC [0, 1, 2, 3, 5, 7] [4, 5, 6, 7, 9, 11] 12 [(4, .pointer (some ((a9.add (a0.toNat * 4)).add 0))), (5, .pointer (some ((a9.add (a0.toNat * 4)).add 0))), (6, .pointer (some ((a9.add (a0.toNat * 4)).add 0))), (7, .pointer (some ⟨b6, 0, none⟩)), (9, .pointer (some ⟨b6, 1, none⟩)), (11, .pointer (some ⟨b6, 2, none⟩))] #[true, true, true, true, false, true, false, true, false, false, false, false, false, false, false, false, false, false] (by kernel_rfl) (by kernel_rfl) ?_
     refine ED.Y hN hF hC 4 11 #[true, true, true, true, true, true, false, true, false, false, false, false, false, false, false, false, false, false] (by kernel_rfl) (by kernel_rfl) rfl (fun _ _ _ hS => YO.loadBox hS 0 rfl 3 0 1 (.int .i64 2) 8 (by kernel_rfl) (by kernel_rfl) (by kernel_rfl) (by kernel_rfl)) ?_
     refine ED.quick hN hF hC [9, 10] [5, 6, 8, 9, 11, 14] 9 [(5, .pointer (some ((a9.add (a0.toNat * 4)).add 0))), (6, .pointer (some ((a9.add (a0.toNat * 4)).add 0))), (8, .int .i64 2), (9, .pointer (some ⟨b6, 1, none⟩)), (11, .pointer (some ⟨b6, 2, none⟩)), (14, .pointer (some ((a9.add (a0.toNat * 4)).add 1)))] #[true, true, true, true, true, true, false, true, false, true, true, false, false, false, false, false, false, false] (by kernel_rfl) (by kernel_rfl) ?_
     refine ED.Y hN hF hC 6 8 #[true, true, true, true, true, true, true, true, false, true, true, false, false, false, false, false, false, false] (by kernel_rfl) (by kernel_rfl) rfl (fun _ _ _ hS => YO.loadBox hS 0 rfl 21 1 1 (.int .i32 0) 10 (by kernel_rfl) (by kernel_rfl) (by kernel_rfl) (by kernel_rfl)) ?_
     refine ED.Y hN hF hC 8 7 #[true, true, true, true, true, true, true, true, true, true, true, false, false, false, false, false, false, false] (by kernel_rfl) (by kernel_rfl) rfl (fun _ _ _ hS => YO.loadBox hS 0 rfl 57 2 1 (.int .i64 a5) 12 (by kernel_rfl) (by kernel_rfl) (by kernel_rfl) (by kernel_rfl)) ?_
     refine ED.one 11 6 #[true, true, true, true, true, true, true, true, true, true, true, true, false, false, false, false, false, false] (by kernel_rfl) (by kernel_rfl) (by kernel_rfl) (EO.storeEl hS 1 kS96 96 a9 b3 (a2.getD a1.toNat []) rfl a0 c1 c2 zS96 3 4 1 rfl (.int .i64 2) (⟨((a2.getD a1.toNat []).getD a0.toNat zS96).f0, 2, ((a2.getD a1.toNat []).getD a0.toNat zS96).f2, ((a2.getD a1.toNat []).getD a0.toNat zS96).f3⟩ : S96) b4 d2 (Ass.box 100 b6 [.int .i64 2, .int .i32 0, .int .i64 a5] :: Ass.own 96 kS96 (some a9) b3 b4 :: Ass.box 91 a3 [.slice (some b0) a2.length a4, .slice a7 a6.length a8] :: Ass.holed 94 96 kS96 (some b0) a4 a2 a1.toNat ((some a9), (a2.getD a1.toNat []).length, b3) :: Ass.own 3 (Kd.int .i64) a7 a8 a6 :: os) (by kernel_rfl) (by kernel_rfl) (by kernel_rfl) (by kernel_rfl) (by kernel_rfl) (by kernel_rfl) (fun w G vs hr h => (by have e := encS96_of _ _ _ _ h; subst e; exact ⟨[.int .i64 (((a2.getD a1.toNat []).getD a0.toNat zS96).f0)], [.int .i64 2, .int .i32 (((a2.getD a1.toNat []).getD a0.toNat zS96).f2), .int .i64 (((a2.getD a1.toNat []).getD a0.toNat zS96).f3)], rfl, rfl, ⟨[.int .i64 2], [.int .i32 (((a2.getD a1.toNat []).getD a0.toNat zS96).f2), .int .i64 (((a2.getD a1.toNat []).getD a0.toNat zS96).f3)], rfl, rfl, ⟨[.int .i32 (((a2.getD a1.toNat []).getD a0.toNat zS96).f2)], [.int .i64 (((a2.getD a1.toNat []).getD a0.toNat zS96).f3)], rfl, rfl, ⟨[.int .i64 (((a2.getD a1.toNat []).getD a0.toNat zS96).f3)], [], rfl, rfl, rfl⟩⟩⟩⟩)) rfl ?_)
     intro w hS
     have hC : Core B [Ass.box 100 b6 [.int .i64 2, .int .i32 0, .int .i64 a5], Ass.box 91 a3 [.slice (some b0) a2.length a4, .slice a7 a6.length a8], Ass.holed 94 96 kS96 (some b0) a4 a2 a1.toNat ((some a9), (a2.getD a1.toNat []).length, b3), Ass.own 3 (Kd.int .i64) a7 a8 a6] [] _ := ⟨_, _, hS.re [4, 4, 4, 3] [] rfl sub_self⟩
     refine ⟨hC, ?_⟩
     refine ED.quick hN hF hC [12, 13] [6, 10, 12, 16] 4 [(6, .pointer (some ((a9.add (a0.toNat * 4)).add 0))), (10, .int .i32 0), (12, .int .i64 a5), (16, .pointer (some ((a9.add (a0.toNat * 4)).add 2)))] #[true, true, true, true, true, true, true, true, true, true, true, true, true, true, false, false, false, false] (by kernel_rfl) (by kernel_rfl) ?_
     refine ED.one 14 3 #[true, true, true, true, true, true, true, true, true, true, true, true, true, true, true, false, false, false] (by kernel_rfl) (by kernel_rfl) (by kernel_rfl) (EO.storeEl hS 1 kS96 96 a9 b3 b4 rfl a0 c1 (lt_set c2 d2) zS96 21 4 2 rfl (.int .i32 0) (⟨(b4.getD a0.toNat zS96).f0, (b4.getD a0.toNat zS96).f1, 0, (b4.getD a0.toNat zS96).f3⟩ : S96) b5 e1 (Ass.box 100 b6 [.int .i64 2, .int .i32 0, .int .i64 a5] :: Ass.own 96 kS96 (some a9) b3 b5 :: Ass.box 91 a3 [.slice (some b0) a2.length a4, .slice a7 a6.length a8] :: Ass.holed 94 96 kS96 (some b0) a4 a2 a1.toNat ((some a9), (a2.getD a1.toNat []).length, b3) :: Ass.own 3 (Kd.int .i64) a7 a8 a6 :: os) (by kernel_rfl) (by kernel_rfl) (by kernel_rfl) (by kernel_rfl) (by kernel_rfl) (by kernel_rfl) (fun w G vs hr h => (by have e := encS96_of _ _ _ _ h; subst e; exact ⟨[.int .i64 ((b4.getD a0.toNat zS96).f0)], [.int .i64 ((b4.getD a0.toNat zS96).f1), .int .i32 0, .int .i64 ((b4.getD a0.toNat zS96).f3)], rfl, rfl, ⟨[.int .i64 ((b4.getD a0.toNat zS96).f1)], [.int .i32 0, .int .i64 ((b4.getD a0.toNat zS96).f3)], rfl, rfl, ⟨[.int .i32 0], [.int .i64 ((b4.getD a0.toNat zS96).f3)], rfl, rfl, ⟨[.int .i64 ((b4.getD a0.toNat zS96).f3)], [], rfl, rfl, rfl⟩⟩⟩⟩)) rfl ?_)
     intro w hS
     have hC : Core B [Ass.box 100 b6 [.int .i64 2, .int .i32 0, .int .i64 a5], Ass.box 91 a3 [.slice (some b0) a2.length a4, .slice a7 a6.length a8], Ass.holed 94 96 kS96 (some b0) a4 a2 a1.toNat ((some a9), (a2.getD a1.toNat []).length, b3), Ass.own 3 (Kd.int .i64) a7 a8 a6] [] _ := ⟨_, _, hS.re [4, 4, 4, 3] [] rfl sub_self⟩
     refine ⟨hC, ?_⟩
     refine ED.quick hN hF hC [15, 16] [12, 18] 1 [(12, .int .i64 a5), (18, .pointer (some ((a9.add (a0.toNat * 4)).add 3)))] #[true, true, true, true, true, true, true, true, true, true, true, true, true, true, true, true, true, false] (by kernel_rfl) (by kernel_rfl) ?_
     refine ED.one 17 0 #[true, true, true, true, true, true, true, true, true, true, true, true, true, true, true, true, true, true] (by kernel_rfl) (by kernel_rfl) (by kernel_rfl) (EO.storeEl hS 1 kS96 96 a9 b3 b5 rfl a0 c1 (lt_set (lt_set c2 d2) e1) zS96 57 4 3 rfl (.int .i64 a5) (⟨(b5.getD a0.toNat zS96).f0, (b5.getD a0.toNat zS96).f1, (b5.getD a0.toNat zS96).f2, a5⟩ : S96) b8 e6 (Ass.box 100 b6 [.int .i64 2, .int .i32 0, .int .i64 a5] :: Ass.own 96 kS96 (some a9) b3 b8 :: Ass.box 91 a3 [.slice (some b0) a2.length a4, .slice a7 a6.length a8] :: Ass.holed 94 96 kS96 (some b0) a4 a2 a1.toNat ((some a9), (a2.getD a1.toNat []).length, b3) :: Ass.own 3 (Kd.int .i64) a7 a8 a6 :: os) (by kernel_rfl) (by kernel_rfl) (by kernel_rfl) (by kernel_rfl) (by kernel_rfl) (by kernel_rfl) (fun w G vs hr h => (by have e := encS96_of _ _ _ _ h; subst e; exact ⟨[.int .i64 ((b5.getD a0.toNat zS96).f0)], [.int .i64 ((b5.getD a0.toNat zS96).f1), .int .i32 ((b5.getD a0.toNat zS96).f2), .int .i64 a5], rfl, rfl, ⟨[.int .i64 ((b5.getD a0.toNat zS96).f1)], [.int .i32 ((b5.getD a0.toNat zS96).f2), .int .i64 a5], rfl, rfl, ⟨[.int .i32 ((b5.getD a0.toNat zS96).f2)], [.int .i64 a5], rfl, rfl, ⟨[.int .i64 a5], [], rfl, rfl, rfl⟩⟩⟩⟩)) rfl ?_)
     intro w hS
     have hC : Core B [Ass.box 100 b6 [.int .i64 2, .int .i32 0, .int .i64 a5], Ass.box 91 a3 [.slice (some b0) a2.length a4, .slice a7 a6.length a8], Ass.holed 94 96 kS96 (some b0) a4 a2 a1.toNat ((some a9), (a2.getD a1.toNat []).length, b3), Ass.own 3 (Kd.int .i64) a7 a8 a6] [] _ := ⟨_, _, hS.re [4, 4, 4, 3] [] rfl sub_self⟩
     refine ⟨hC, ?_⟩
     refine ED.done (by kernel_rfl) ?_
     refine EQ.leaveN (.tuple #[]) (by kernel_rfl) ⟨_, rfl, ?_⟩
     refine EL.done (by kernel_rfl) ?_
     refine EQ.code ?_
     refine EW.seq (x := Cd42.r.r.r.r.l) (y := Cd42.r.r.r.r.r) (by kernel_rfl) ?_
     refine EW.region (id := 5) (ops := Cd42.r.r.r.r.l.ops) (by kernel_rfl) ?_
     refine EL.quick 1 [6] [(6, .bool (true))] (by kernel_rfl) ?_
     refine EL.done (by kernel_rfl) ?_
     refine EQ.code ?_
     refine EW.ret (by kernel_rfl) ?_
     have hS := St.as (os' := Ass.box 100 b6 [.int .i64 2, .int .i32 0, .int .i64 a5] :: Ass.box 91 a3 [.slice (some b0) a2.length a4, .slice a7 a6.length a8] :: Ass.deep 94 96 kS96 (some b0) a4 (a2.set a1.toNat b8) :: Ass.own 3 (Kd.int .i64) a7 a8 a6 :: os) (St.close hS 1 2 rfl rfl (len_set (len_set (len_set rfl d2) e1) e6) (a2.set a1.toNat b8) rfl) rfl
     have hS := St.as hS (os' := Ass.box 100 b6 [.int .i64 2, .int .i32 0, .int .i64 a5] :: Ass.box 91 a3 [.slice (some b0) (a2.set a1.toNat b8).length a4, .slice a7 a6.length a8] :: Ass.deep 94 96 kS96 (some b0) a4 (a2.set a1.toNat b8) :: Ass.own 3 (Kd.int .i64) a7 a8 a6 :: os) (by simp only [List.length_set])
     exact EQ.leave (.bool (true)) (by kernel_rfl) ⟨_, rfl, (a2.set a1.toNat b8), true, (some b0), a4, rfl, (hS.re [3, 3, 3] [3] rfl (sub_self)), H⟩
    ·rw [if_neg e0] at H
     refine EW.seq (x := Cd42.r.r.l.r.l.l) (y := Cd42.r.r.l.r.l.r) (by kernel_rfl) ?_
     refine EW.region (id := 3) (ops := Cd42.r.r.l.r.l.l.ops) (by kernel_rfl) ?_
     refine EL.quick 1 [6] [(6, .bool (false))] (by kernel_rfl) ?_
     refine EL.done (by kernel_rfl) ?_
     refine EQ.code ?_
     refine EW.ret (by kernel_rfl) ?_
     refine EQ.ret ?_
     have hS := St.as (os' := Ass.box 91 a3 [.slice (some b0) a2.length a4, .slice a7 a6.length a8] :: Ass.deep 94 96 kS96 (some b0) a4 a2 :: Ass.own 3 (Kd.int .i64) a7 a8 a6 :: os) (St.close hS 0 1 rfl rfl rfl a2 (set_getD _ _)) rfl
     exact EQ.leave (.bool (false)) (by kernel_rfl) ⟨_, rfl, a2, false, (some b0), a4, rfl, (hS.re [2, 2, 2] [] rfl (sub_self)), H⟩
 ·rintro v w ⟨c3, b9, c8, c9, rfl, hS, H⟩
  rw [e9] at H
  (try dsimp only at H)
  refine EL.quick 1 [6] [(6, .bool (b9))] (by kernel_rfl) ?_
  refine EL.done (by kernel_rfl) ?_
  refine EQ.code ?_
  refine EW.ret (by kernel_rfl) ?_
  simp only [Option.some.injEq, Prod.mk.injEq] at H
  obtain ⟨rfl, rfl⟩ := H
  exact EQ.leave (.bool (b9)) (by kernel_rfl) ⟨_, rfl, c8, c9, rfl, (hS.re [2, 2, 2] [] rfl (sub_self))⟩

/-! ### (*confidant/confidantref12.Futures).Break: function 24 -/
def confidantref12_Futures_Break.f (K : Nat) (a3 : List Int) (a4 : List (List S96)) (a0 : Int) (a1 : Int) : Option (List (List S96) × Bool) := b2 (confidantref12_Futures_end.f K a3 a4 a0 2 0 a1) fun (b4 : List (List S96)) (a7 : Bool) => (some (b4, a7))
set_option maxRecDepth 100000 in
theorem confidantref12_Futures_Break.calls {K : Nat} {a3 : List Int} {a4 : List (List S96)} {a0 : Int} {a1 : Int} {a2 : Nat} {a5 : Option Addr} {a6 : Nat} {a9 : Option Addr} {b1 : Nat} {a8 : List (List S96)} {b5 : Bool} {B w : World} {os : List Ass} {rs : List Ro} (H : confidantref12_Futures_Break.f K a3 a4 a0 a1 = some (a8, b5)) (hS : St B w (Ass.box 105 a2 [.slice a5 a3.length a6, .slice a9 a4.length b1] :: Ass.own 3 (Kd.int .i64) a5 a6 a3 :: Ass.deep 94 96 kS96 a9 b1 a4 :: os) (rs)) :
  Calls Try.prog 24 [.pointer (some ⟨a2, 0, none⟩), .int .i32 a0, .int .i64 a1].toArray w (fun en w' => ∃ v, en = .returned v ∧ ∃ b0 : Option Addr, ∃ b3 : Nat, v = .bool (b5) ∧ St B w' (Ass.box 105 a2 [.slice a5 a3.length a6, .slice b0 a8.length b3] :: Ass.own 3 (Kd.int .i64) a5 a6 a3 :: Ass.deep 94 96 kS96 b0 b3 a8 :: os) (rs)) := by
 unfold confidantref12_Futures_Break.f at H
 refine calls_of_EW (args := [.pointer (some ⟨a2, 0, none⟩), .int .i32 a0, .int .i64 a1]) (c := Cd24) 11 Try.func24 (by kernel_rfl) (by kernel_rfl) (by kernel_rfl) ?_
 refine EW.seq (x := Cd24.l) (y := Cd24.r) (by kernel_rfl) ?_
 refine EW.region (id := 0) (ops := Cd24.l.ops) (by kernel_rfl) ?_
 refine EL.quick 1 [0, 1, 2] [(0, .pointer (some ⟨a2, 0, none⟩)), (1, .int .i32 a0), (2, .int .i64 a1)] (by kernel_rfl) ?_
 refine EL.done (by kernel_rfl) ?_
 refine EQ.code ?_
 refine EW.seq (x := Cd24.r.l) (y := Cd24.r.r) (by kernel_rfl) ?_
 refine EW.region (id := 1) (ops := Cd24.r.l.ops) (by kernel_rfl) ?_
 refine EL.quick 3 [7, 8, 9] [(7, .pointer (some ⟨a2, 0, none⟩)), (8, .int .i32 a0), (9, .int .i64 a1)] (by kernel_rfl) ?_
 obtain ⟨b4, a7, b8, H⟩ := b2_out H
 refine EL.of (EO.callD 49 [.pointer (some ⟨a2, 0, none⟩), .int .i32 a0, .int .i64 2, .int .i32 0, .int .i64 a1] _ 10 (by kernel_rfl) (by kernel_rfl) (by kernel_rfl) (confidantref12_Futures_end.calls b8 hS) ?_)
 rintro v w ⟨b6, b7, rfl, hS⟩
 refine EL.quick 1 [6] [(6, .bool (a7))] (by kernel_rfl) ?_
 refine EL.done (by kernel_rfl) ?_
 refine EQ.code ?_
 refine EW.ret (by kernel_rfl) ?_
 simp only [Option.some.injEq, Prod.mk.injEq] at H
 obtain ⟨rfl, rfl⟩ := H
 exact EQ.leave (.bool (a7)) (by kernel_rfl) ⟨_, rfl, b6, b7, rfl, (hS.re [2, 2, 2] [] rfl (sub_self))⟩

/-! ### (*confidant/confidantref15.Park).Look: function 20 -/
def confidantref15_Park_Look_37.l0 (K : Nat) (a1 : List S53) (b7 : List Int) (b8 : List (List S96)) (e4 : Int → (List S36) → (List S36) → (List S53) → Option (List S53 × List S36 × List S36 × Int)) : Nat → Int → (List S36) → (List S36) → (List S53) → Int → Option (List S53 × List S36 × List S36 × Int)
 | 0, _, _, _, _, _ => none
 | n + 1, a8, a5, a6, a7, a0 => if a0 < (a1.length : Int) then (lt (fun (d4 : List S36) (d5 : List S36) (d6 : List S53) (e3 : Int) => (confidantref15_Park_Look_37.l0 K a1 b7 b8 e4 n e3 d4 d5 d6 (IntKind.i64.wrap (a0 + 1)))) fun i8 => (if 0 ≤ a0 then (if a8 = 0 then (lt ([(⟨(a1.getD a0.toNat zS53).f0.f0, (a1.getD a0.toNat zS53).f0.f1, (a1.getD a0.toNat zS53).f0.f2, (a1.getD a0.toNat zS53).f0.f3, (⟨(a1.getD a0.toNat zS53).f0.f4.f0, (a1.getD a0.toNat zS53).f0.f4.f1, (a1.getD a0.toNat zS53).f0.f4.f2, (a1.getD a0.toNat zS53).f0.f4.f3⟩ : S33), (a1.getD a0.toNat zS53).f0.f5, (a1.getD a0.toNat zS53).f0.f6, (a1.getD a0.toNat zS53).f0.f7, (a1.getD a0.toNat zS53).f0.f8⟩ : S36)] : List S36) fun g7 => (if (a6.length + g7.length) * 96 ≤ 140737488355328 then (lt (a6 ++ g7) fun e5 => (i8 a5 e5 a7 a8)) else none)) else (b2 (confidantref12_Futures_Get.f K b7 b8 ((a1.getD a0.toNat zS53).f1)) fun (b6 : S96) (e1 : Bool) => (lt (fun (i1 : Bool) => (if i1 = true then (lt ([(⟨(a1.getD a0.toNat zS53).f0.f0, (a1.getD a0.toNat zS53).f0.f1, (a1.getD a0.toNat zS53).f0.f2, (a1.getD a0.toNat zS53).f0.f3, (⟨(a1.getD a0.toNat zS53).f0.f4.f0, (a1.getD a0.toNat zS53).f0.f4.f1, (a1.getD a0.toNat zS53).f0.f4.f2, (a1.getD a0.toNat zS53).f0.f4.f3⟩ : S33), (a1.getD a0.toNat zS53).f0.f5, (a1.getD a0.toNat zS53).f0.f6, (a1.getD a0.toNat zS53).f0.f7, (a1.getD a0.toNat zS53).f0.f8⟩ : S36)] : List S36) fun g8 => (if (a5.length + g8.length) * 96 ≤ 140737488355328 then (lt (a5 ++ g8) fun e6 => (i8 e6 a6 a7 (IntKind.i64.wrap (a8 - 1)))) else none)) else (lt ([(⟨(⟨(a1.getD a0.toNat zS53).f0.f0, (a1.getD a0.toNat zS53).f0.f1, (a1.getD a0.toNat zS53).f0.f2, (a1.getD a0.toNat zS53).f0.f3, (⟨(a1.getD a0.toNat zS53).f0.f4.f0, (a1.getD a0.toNat zS53).f0.f4.f1, (a1.getD a0.toNat zS53).f0.f4.f2, (a1.getD a0.toNat zS53).f0.f4.f3⟩ : S33), (a1.getD a0.toNat zS53).f0.f5, (a1.getD a0.toNat zS53).f0.f6, (a1.getD a0.toNat zS53).f0.f7, (a1.getD a0.toNat zS53).f0.f8⟩ : S36), (a1.getD a0.toNat zS53).f1⟩ : S53)] : List S53) fun g9 => (if (a7.length + g9.length) * 104 ≤ 140737488355328 then (lt (a7 ++ g9) fun e7 => (i8 a5 a6 e7 (IntKind.i64.wrap (a8 - 1)))) else none)))) fun j0 => (if e1 = true then (j0 (!(decide (b6.f1 = 0)))) else (j0 false))))) else none)) else (e4 a8 a5 a6 a7)
def confidantref15_Park_Look_37.f (K : Nat) (a1 : List S53) (b7 : List Int) (b8 : List (List S96)) (c7 : Int) : Option (List S53 × List S36 × List S36 × Int) := lt (fun (e2 : Int) (d0 : List S36) (d1 : List S36) (c9 : List S53) => (some (c9, d0, d1, e2))) fun e4 => (confidantref15_Park_Look_37.l0 K a1 b7 b8 e4 K (mx c7 0) ([] : List S36) ([] : List S36) ([] : List S53) 0)
set_option maxRecDepth 100000 in
theorem confidantref15_Park_Look_37.calls {K : Nat} {a1 : List S53} {b7 : List Int} {b8 : List (List S96)} {c7 : Int} {a3 : Nat} {c6 : Option Addr} {c0 : Nat} {a4 : Nat} {c1 : Option Addr} {c3 : Nat} {c2 : Option Addr} {c4 : Nat} {e8 : List S53} {e9 : List S36} {f9 : List S36} {i0 : Int} {B w : World} {os : List Ass} {rs : List Ro} (H : confidantref15_Park_Look_37.f K a1 b7 b8 c7 = some (e8, e9, f9, i0)) (hS : St B w (Ass.box 49 a3 [.slice c6 a1.length c0] :: Ass.own 53 kS53 c6 c0 a1 :: Ass.box 105 a4 [.slice c1 b7.length c3, .slice c2 b8.length c4] :: Ass.own 3 (Kd.int .i64) c1 c3 b7 :: Ass.deep 94 96 kS96 c2 c4 b8 :: os) (rs)) :
  Calls Try.prog 20 [.pointer (some ⟨a3, 0, none⟩), .pointer (some ⟨a4, 0, none⟩), .int .i64 c7].toArray w (fun en w' => ∃ v, en = .returned v ∧ ∃ j6 : Option Addr, ∃ j9 : Nat, ∃ j7 : Option Addr, ∃ m0 : Nat, ∃ j8 : Option Addr, ∃ m1 : Nat, v = .tuple #[.slice j7 e9.length m0, .slice j8 f9.length m1, .int .i64 i0] ∧ St B w' (Ass.box 49 a3 [.slice j6 e8.length j9] :: Ass.own 53 kS53 c6 c0 a1 :: Ass.box 105 a4 [.slice c1 b7.length c3, .slice c2 b8.length c4] :: Ass.own 3 (Kd.int .i64) c1 c3 b7 :: Ass.deep 94 96 kS96 c2 c4 b8 :: Ass.own 53 kS53 j6 j9 e8 :: Ass.own 36 kS36 j7 m0 e9 :: Ass.own 36 kS36 j8 m1 f9 :: os) (rs)) := by
 unfold confidantref15_Park_Look_37.f at H
 refine calls_of_EW (args := [.pointer (some ⟨a3, 0, none⟩), .pointer (some ⟨a4, 0, none⟩), .int .i64 c7]) (c := Cd20) 72 Try.func20 (by kernel_rfl) (by kernel_rfl) (by kernel_rfl) ?_
 refine EW.seq (x := Cd20.l) (y := Cd20.r) (by kernel_rfl) ?_
 refine EW.region (id := 0) (ops := Cd20.l.ops) (by kernel_rfl) ?_
 refine EL.quick 3 [0, 1, 2] [(0, .pointer (some ⟨a3, 0, none⟩)), (1, .pointer (some ⟨a4, 0, none⟩)), (2, .int .i64 c7)] (by kernel_rfl) ?_
 refine EL.done (by kernel_rfl) ?_
 refine EQ.code ?_
 refine EW.seq (x := Cd20.r.l) (y := Cd20.r.r) (by kernel_rfl) ?_
 refine EW.region (id := 1) (ops := Cd20.r.l.ops) (by kernel_rfl) ?_
 refine EL.quick 2 [0, 1, 2, 9, 10] [(0, .pointer (some ⟨a3, 0, none⟩)), (1, .pointer (some ⟨a4, 0, none⟩)), (2, .int .i64 c7), (9, .slice none ([] : List S36).length 0), (10, .slice none ([] : List S36).length 0)] (by kernel_rfl) ?_
 refine EL.done (by kernel_rfl) ?_
 refine EQ.code ?_
 refine EW.seq (x := Cd20.r.r.l) (y := Cd20.r.r.r) (by kernel_rfl) ?_
 refine EW.region (id := 2) (ops := Cd20.r.r.l.ops) (by kernel_rfl) ?_
 refine EL.quick 1 [0, 1, 2, 9, 10, 11] [(0, .pointer (some ⟨a3, 0, none⟩)), (1, .pointer (some ⟨a4, 0, none⟩)), (2, .int .i64 c7), (9, .slice none ([] : List S36).length 0), (10, .slice none ([] : List S36).length 0), (11, .slice none ([] : List S53).length 0)] (by kernel_rfl) ?_
 refine EL.done (by kernel_rfl) ?_
 refine EQ.code ?_
 refine EW.seq (x := Cd20.r.r.r.l) (y := Cd20.r.r.r.r) (by kernel_rfl) ?_
 refine EW.region (id := 3) (ops := Cd20.r.r.r.l.ops) (by kernel_rfl) ?_
 refine EL.quick 3 [0, 1, 2, 9, 10, 11] [(0, .pointer (some ⟨a3, 0, none⟩)), (1, .pointer (some ⟨a4, 0, none⟩)), (2, .int .i64 (mx c7 0)), (9, .slice none ([] : List S36).length 0), (10, .slice none ([] : List S36).length 0), (11, .slice none ([] : List S53).length 0)] (by kernel_rfl) ?_
 refine EL.done (by kernel_rfl) ?_
 refine EQ.code ?_
 obtain ⟨e4, n3, H⟩ := lt_out H
 refine EW.cut (x := Cd20.r.r.r.r.l) (y := Cd20.r.r.r.r.r) (fun a w => ∃ e2 : Int, ∃ d0 : List S36, ∃ d1 : List S36, ∃ c9 : List S53, ∃ d7 : Option Addr, ∃ d9 : Nat, ∃ d8 : Option Addr, ∃ e0 : Nat, ∃ d2 : Option Addr, ∃ d3 : Nat, Sat 72 [(0, .pointer (some ⟨a3, 0, none⟩)), (2, .int .i64 e2), (9, .slice d7 d0.length d9), (10, .slice d8 d1.length e0), (11, .slice d2 c9.length d3)] a ∧ St B w (Ass.box 49 a3 [.slice c6 a1.length c0] :: Ass.own 53 kS53 c6 c0 a1 :: Ass.box 105 a4 [.slice c1 b7.length c3, .slice c2 b8.length c4] :: Ass.own 3 (Kd.int .i64) c1 c3 b7 :: Ass.deep 94 96 kS96 c2 c4 b8 :: Ass.own 36 kS36 d7 d9 d0 :: Ass.own 36 kS36 d8 e0 d1 :: Ass.own 53 kS53 d2 d3 c9 :: os) (rs) ∧ e4 e2 d0 d1 c9 = some (e8, e9, f9, i0)) (by kernel_rfl) ?_ (fun a w hI => ?_)
 ·refine EW.seq (x := Cd20.r.r.r.r.l.l) (y := Cd20.r.r.r.r.l.r) (by kernel_rfl) ?_
  refine EW.region (id := 4) (ops := Cd20.r.r.r.r.l.l.ops) (by kernel_rfl) ?_
  refine EL.quick 1 [0, 1, 2, 9, 10, 11, 12] [(0, .pointer (some ⟨a3, 0, none⟩)), (1, .pointer (some ⟨a4, 0, none⟩)), (2, .int .i64 (mx c7 0)), (9, .slice none ([] : List S36).length 0), (10, .slice none ([] : List S36).length 0), (11, .slice none ([] : List S53).length 0), (12, .int .i64 0)] (by kernel_rfl) ?_
  refine EL.done (by kernel_rfl) ?_
  refine EQ.code ?_
  refine EW.block (x := Cd20.r.r.r.r.l.r.l) (id := 0) (by kernel_rfl) ?_
  have hS := St.nilO hS 36 kS36
  have hS := St.nilO hS 36 kS36
  have hS := St.nilO hS 53 kS53
  refine EW.loop (x := Cd20.r.r.r.r.l.r.l.l) (fun n a w => ∃ a8 : Int, ∃ a5 : List S36, ∃ a6 : List S36, ∃ a7 : List S53, ∃ a0 : Int, ∃ a9 : Option Addr, ∃ b3 : Nat, ∃ b0 : Option Addr, ∃ b4 : Nat, ∃ b1 : Option Addr, ∃ b5 : Nat, Sat 72 [(0, .pointer (some ⟨a3, 0, none⟩)), (1, .pointer (some ⟨a4, 0, none⟩)), (2, .int .i64 a8), (9, .slice a9 a5.length b3), (10, .slice b0 a6.length b4), (11, .slice b1 a7.length b5), (12, .int .i64 a0)] a ∧ St B w (Ass.box 49 a3 [.slice c6 a1.length c0] :: Ass.own 53 kS53 c6 c0 a1 :: Ass.box 105 a4 [.slice c1 b7.length c3, .slice c2 b8.length c4] :: Ass.own 3 (Kd.int .i64) c1 c3 b7 :: Ass.deep 94 96 kS96 c2 c4 b8 :: Ass.own 36 kS36 a9 b3 a5 :: Ass.own 36 kS36 b0 b4 a6 :: Ass.own 53 kS53 b1 b5 a7 :: os) (rs) ∧ confidantref15_Park_Look_37.l0 K a1 b7 b8 e4 n a8 a5 a6 a7 a0 = some (e8, e9, f9, i0)) K (by kernel_rfl) ?_ (fun n a w hI => ?_)
  ·refine EQ.keep [0, 1, 2, 9, 10, 11, 12] [(0, .pointer (some ⟨a3, 0, none⟩)), (1, .pointer (some ⟨a4, 0, none⟩)), (2, .int .i64 (mx c7 0)), (9, .slice none ([] : List S36).length 0), (10, .slice none ([] : List S36).length 0), (11, .slice none ([] : List S53).length 0), (12, .int .i64 0)] (by kernel_rfl) ?_
   exact fun a ha => ⟨mx c7 0, ([] : List S36), ([] : List S36), ([] : List S53), 0, none, 0, none, 0, none, 0, ha, (hS.re [0, 1, 2, 7, 7, 7, 7, 7] [] rfl (sub_self)), H⟩
  ·obtain ⟨a8, a5, a6, a7, a0, a9, b3, b0, b4, b1, b5, ha, hS, H⟩ := hI
   obtain _ | n := n
   ·simp [confidantref15_Park_Look_37.l0] at H
   rw [confidantref15_Park_Look_37.l0.eq_2] at H
   refine EW.at ?_ a ha
   clear ha a
   refine EW.seq (x := Cd20.r.r.r.r.l.r.l.l.l) (y := Cd20.r.r.r.r.l.r.l.l.r) (by kernel_rfl) ?_
   refine EW.seq (x := Cd20.r.r.r.r.l.r.l.l.l.l) (y := Cd20.r.r.r.r.l.r.l.l.l.r) (by kernel_rfl) ?_
   refine EW.region (id := 5) (ops := Cd20.r.r.r.r.l.r.l.l.l.l.ops) (by kernel_rfl) ?_
   refine EL.quick 4 [0, 1, 2, 9, 10, 11, 12, 18, 21] [(0, .pointer (some ⟨a3, 0, none⟩)), (1, .pointer (some ⟨a4, 0, none⟩)), (2, .int .i64 a8), (9, .slice a9 a5.length b3), (10, .slice b0 a6.length b4), (11, .slice b1 a7.length b5), (12, .int .i64 a0), (18, .int .i64 a0), (21, .pointer (some ⟨a3, 0, none⟩))] (by kernel_rfl) ?_
   refine EL.of (EO.Y (YO.loadBox hS 0 rfl 47 0 1 (.slice c6 a1.length c0) 22 (by kernel_rfl) (by kernel_rfl) (by kernel_rfl) (by kernel_rfl)) ?_)
   refine EL.quick 2 [0, 1, 2, 9, 10, 11, 12, 24] [(0, .pointer (some ⟨a3, 0, none⟩)), (1, .pointer (some ⟨a4, 0, none⟩)), (2, .int .i64 a8), (9, .slice a9 a5.length b3), (10, .slice b0 a6.length b4), (11, .slice b1 a7.length b5), (12, .int .i64 a0), (24, .bool (decide (a0 < (a1.length : Int))))] (by kernel_rfl) ?_
   refine EL.done (by kernel_rfl) ?_
   refine EQ.code ?_
   refine EW.condP (o := (.tmp 24)) (x := Cd20.r.r.r.r.l.r.l.l.l.r.l) (y := Cd20.r.r.r.r.l.r.l.l.l.r.r) (a0 < (a1.length : Int)) (by kernel_rfl) (by kernel_rfl) (fun g6 => ?_) (fun g6 => ?_)
   ·rw [if_pos g6] at H
    refine EW.skip (by kernel_rfl) ?_
    refine EQ.code ?_
    obtain ⟨i8, n4, H⟩ := lt_out H
    refine EW.cut (x := Cd20.r.r.r.r.l.r.l.l.r.l) (y := Cd20.r.r.r.r.l.r.l.l.r.r) (fun a w => ∃ d4 : List S36, ∃ d5 : List S36, ∃ d6 : List S53, ∃ e3 : Int, ∃ m2 : Nat, ∃ j1 : Option Addr, ∃ j2 : Nat, ∃ g0 : Option Addr, ∃ g3 : Nat, ∃ g1 : Option Addr, ∃ g4 : Nat, ∃ g2 : Option Addr, ∃ g5 : Nat, Sat 72 [(0, .pointer (some ⟨a3, 0, none⟩)), (1, .pointer (some ⟨a4, 0, none⟩)), (2, .int .i64 e3), (9, .slice g0 d4.length g3), (10, .slice g1 d5.length g4), (11, .slice g2 d6.length g5), (12, .int .i64 a0)] a ∧ St B w (Ass.box 53 m2 [.int .i32 ((a1.getD a0.toNat zS53).f0.f0), .int .i64 ((a1.getD a0.toNat zS53).f0.f1), .int .i64 ((a1.getD a0.toNat zS53).f0.f2), .slice j1 ((a1.getD a0.toNat zS53).f0.f3).length j2, .int .i32 ((a1.getD a0.toNat zS53).f0.f4.f0), .int .i32 ((a1.getD a0.toNat zS53).f0.f4.f1), .int .i32 ((a1.getD a0.toNat zS53).f0.f4.f2), .int .i32 ((a1.getD a0.toNat zS53).f0.f4.f3), .int .i64 ((a1.getD a0.toNat zS53).f0.f5), .int .i64 ((a1.getD a0.toNat zS53).f0.f6), .int .u32 ((a1.getD a0.toNat zS53).f0.f7), .int .i64 ((a1.getD a0.toNat zS53).f0.f8), .int .i32 ((a1.getD a0.toNat zS53).f1)] :: Ass.box 49 a3 [.slice c6 a1.length c0] :: Ass.own 53 kS53 c6 c0 a1 :: Ass.box 105 a4 [.slice c1 b7.length c3, .slice c2 b8.length c4] :: Ass.own 3 (Kd.int .i64) c1 c3 b7 :: Ass.deep 94 96 kS96 c2 c4 b8 :: Ass.own 36 kS36 g0 g3 d4 :: Ass.own 36 kS36 g1 g4 d5 :: Ass.own 53 kS53 g2 g5 d6 :: os) (Ro.sl (Kd.int .i32) j1 j2 ((a1.getD a0.toNat zS53).f0.f3) :: rs) ∧ i8 d4 d5 d6 e3 = some (e8, e9, f9, i0)) (by kernel_rfl) ?_ (fun a w hI => ?_)
    ·refine EW.block (x := Cd20.r.r.r.r.l.r.l.l.r.l.l) (id := 1) (by kernel_rfl) ?_
     refine EW.seq (x := Cd20.r.r.r.r.l.r.l.l.r.l.l.l) (y := Cd20.r.r.r.r.l.r.l.l.r.l.l.r) (by kernel_rfl) ?_
     refine EW.region (id := 7) (ops := Cd20.r.r.r.r.l.r.l.l.r.l.l.l.ops) (by kernel_rfl) ?_
     refine EL.quick 3 [0, 1, 2, 9, 10, 11, 12, 29] [(0, .pointer (some ⟨a3, 0, none⟩)), (1, .pointer (some ⟨a4, 0, none⟩)), (2, .int .i64 a8), (9, .slice a9 a5.length b3), (10, .slice b0 a6.length b4), (11, .slice b1 a7.length b5), (12, .int .i64 a0), (29, .pointer (some ⟨a3, 0, none⟩))] (by kernel_rfl) ?_
     refine EL.of (EO.Y (YO.loadBox hS 0 rfl 47 0 1 (.slice c6 a1.length c0) 30 (by kernel_rfl) (by kernel_rfl) (by kernel_rfl) (by kernel_rfl)) ?_)
     refine EL.quick 1 [0, 1, 2, 9, 10, 11, 12, 30, 31] [(0, .pointer (some ⟨a3, 0, none⟩)), (1, .pointer (some ⟨a4, 0, none⟩)), (2, .int .i64 a8), (9, .slice a9 a5.length b3), (10, .slice b0 a6.length b4), (11, .slice b1 a7.length b5), (12, .int .i64 a0), (30, .slice c6 a1.length c0), (31, .int .i64 a0)] (by kernel_rfl) ?_
     obtain ⟨j3, H⟩ := ite_in H
     obtain ⟨c5, rfl⟩ := St.rd_some hS (Rd.own 1 53 rfl) j3 g6
     refine EL.of (EO.Y (YO.idx 47 13 c5 a1.length c0 .i64 a0 32 (by kernel_rfl) (by kernel_rfl) (by kernel_rfl) (by kernel_rfl) j3 g6) ?_)
     refine EL.of (EO.loadPt hS kS53 c5 c0 a1 (Rd.own 1 53 rfl) zS53 cellsS53 factsS53 partsS53 a0 j3 g6 53 13 0 13 rfl (fun a2 => .agg #[.int .i32 ((a1.getD a0.toNat zS53).f0.f0), .int .i64 ((a1.getD a0.toNat zS53).f0.f1), .int .i64 ((a1.getD a0.toNat zS53).f0.f2), .slice a2.1 ((a1.getD a0.toNat zS53).f0.f3).length a2.2, .int .i32 ((a1.getD a0.toNat zS53).f0.f4.f0), .int .i32 ((a1.getD a0.toNat zS53).f0.f4.f1), .int .i32 ((a1.getD a0.toNat zS53).f0.f4.f2), .int .i32 ((a1.getD a0.toNat zS53).f0.f4.f3), .int .i64 ((a1.getD a0.toNat zS53).f0.f5), .int .i64 ((a1.getD a0.toNat zS53).f0.f6), .int .u32 ((a1.getD a0.toNat zS53).f0.f7), .int .i64 ((a1.getD a0.toNat zS53).f0.f8), .int .i32 ((a1.getD a0.toNat zS53).f1)]) 33 (by kernel_rfl) (by kernel_rfl) (by kernel_rfl) (fun a2 => (by kernel_rfl)) ?_)
     intro a2 hS
     refine EL.of (EO.alloc hS 53 (.agg #[.int .i32 0, .int .i64 0, .int .i64 0, .slice none ([] : List Int).length 0, .int .i32 0, .int .i32 0, .int .i32 0, .int .i32 0, .int .i64 0, .int .i64 0, .int .u32 0, .int .i64 0, .int .i32 0]) [.int .i32 0, .int .i64 0, .int .i64 0, .slice none ([] : List Int).length 0, .int .i32 0, .int .i32 0, .int .i32 0, .int .i32 0, .int .i64 0, .int .i64 0, .int .u32 0, .int .i64 0, .int .i32 0] 13 (by kernel_rfl) (by kernel_rfl) (by kernel_rfl) (by kernel_rfl) (by first | rfl | kernel_rfl) ?_)
     intro b9 w hS
     refine EL.of (EO.storeBox (os' := Ass.box 53 b9 [.int .i32 ((a1.getD a0.toNat zS53).f0.f0), .int .i64 ((a1.getD a0.toNat zS53).f0.f1), .int .i64 ((a1.getD a0.toNat zS53).f0.f2), .slice a2.1 ((a1.getD a0.toNat zS53).f0.f3).length a2.2, .int .i32 ((a1.getD a0.toNat zS53).f0.f4.f0), .int .i32 ((a1.getD a0.toNat zS53).f0.f4.f1), .int .i32 ((a1.getD a0.toNat zS53).f0.f4.f2), .int .i32 ((a1.getD a0.toNat zS53).f0.f4.f3), .int .i64 ((a1.getD a0.toNat zS53).f0.f5), .int .i64 ((a1.getD a0.toNat zS53).f0.f6), .int .u32 ((a1.getD a0.toNat zS53).f0.f7), .int .i64 ((a1.getD a0.toNat zS53).f0.f8), .int .i32 ((a1.getD a0.toNat zS53).f1)] :: Ass.box 49 a3 [.slice (some c5) a1.length c0] :: Ass.own 53 kS53 (some c5) c0 a1 :: Ass.box 105 a4 [.slice c1 b7.length c3, .slice c2 b8.length c4] :: Ass.own 3 (Kd.int .i64) c1 c3 b7 :: Ass.deep 94 96 kS96 c2 c4 b8 :: Ass.own 36 kS36 a9 b3 a5 :: Ass.own 36 kS36 b0 b4 a6 :: Ass.own 53 kS53 b1 b5 a7 :: os) hS 0 rfl 53 0 (.agg #[.int .i32 ((a1.getD a0.toNat zS53).f0.f0), .int .i64 ((a1.getD a0.toNat zS53).f0.f1), .int .i64 ((a1.getD a0.toNat zS53).f0.f2), .slice a2.1 ((a1.getD a0.toNat zS53).f0.f3).length a2.2, .int .i32 ((a1.getD a0.toNat zS53).f0.f4.f0), .int .i32 ((a1.getD a0.toNat zS53).f0.f4.f1), .int .i32 ((a1.getD a0.toNat zS53).f0.f4.f2), .int .i32 ((a1.getD a0.toNat zS53).f0.f4.f3), .int .i64 ((a1.getD a0.toNat zS53).f0.f5), .int .i64 ((a1.getD a0.toNat zS53).f0.f6), .int .u32 ((a1.getD a0.toNat zS53).f0.f7), .int .i64 ((a1.getD a0.toNat zS53).f0.f8), .int .i32 ((a1.getD a0.toNat zS53).f1)]) [.int .i32 ((a1.getD a0.toNat zS53).f0.f0), .int .i64 ((a1.getD a0.toNat zS53).f0.f1), .int .i64 ((a1.getD a0.toNat zS53).f0.f2), .slice a2.1 ((a1.getD a0.toNat zS53).f0.f3).length a2.2, .int .i32 ((a1.getD a0.toNat zS53).f0.f4.f0), .int .i32 ((a1.getD a0.toNat zS53).f0.f4.f1), .int .i32 ((a1.getD a0.toNat zS53).f0.f4.f2), .int .i32 ((a1.getD a0.toNat zS53).f0.f4.f3), .int .i64 ((a1.getD a0.toNat zS53).f0.f5), .int .i64 ((a1.getD a0.toNat zS53).f0.f6), .int .u32 ((a1.getD a0.toNat zS53).f0.f7), .int .i64 ((a1.getD a0.toNat zS53).f0.f8), .int .i32 ((a1.getD a0.toNat zS53).f1)] (by kernel_rfl) (by kernel_rfl) (by kernel_rfl) (by kernel_rfl) (by kernel_rfl) (by kernel_rfl) rfl rfl ?_)
     intro w hS
     refine EL.done (by kernel_rfl) ?_
     refine EQ.code ?_
     refine EW.seq (x := Cd20.r.r.r.r.l.r.l.l.r.l.l.r.l) (y := Cd20.r.r.r.r.l.r.l.l.r.l.l.r.r) (by kernel_rfl) ?_
     refine EW.seq (x := Cd20.r.r.r.r.l.r.l.l.r.l.l.r.l.l) (y := Cd20.r.r.r.r.l.r.l.l.r.l.l.r.l.r) (by kernel_rfl) ?_
     refine EW.region (id := 8) (ops := Cd20.r.r.r.r.l.r.l.l.r.l.l.r.l.l.ops) (by kernel_rfl) ?_
     refine EL.quick 2 [0, 1, 2, 9, 10, 11, 12, 13, 35] [(0, .pointer (some ⟨a3, 0, none⟩)), (1, .pointer (some ⟨a4, 0, none⟩)), (2, .int .i64 a8), (9, .slice a9 a5.length b3), (10, .slice b0 a6.length b4), (11, .slice b1 a7.length b5), (12, .int .i64 a0), (13, .pointer (some ⟨b9, 0, none⟩)), (35, .bool (decide (a8 = 0)))] (by kernel_rfl) ?_
     refine EL.done (by kernel_rfl) ?_
     refine EQ.code ?_
     refine EW.condP (o := (.tmp 35)) (x := Cd20.r.r.r.r.l.r.l.l.r.l.l.r.l.r.l) (y := Cd20.r.r.r.r.l.r.l.l.r.l.l.r.l.r.r) (a8 = 0) (by kernel_rfl) (by kernel_rfl) (fun j4 => ?_) (fun j4 => ?_)
     ·rw [if_pos j4] at H
      refine EW.seq (x := Cd20.r.r.r.r.l.r.l.l.r.l.l.r.l.r.l.l) (y := Cd20.r.r.r.r.l.r.l.l.r.l.l.r.l.r.l.r) (by kernel_rfl) ?_
      refine EW.region (id := 9) (ops := Cd20.r.r.r.r.l.r.l.l.r.l.l.r.l.r.l.l.ops) (by kernel_rfl) ?_
      refine EL.quick 2 [0, 1, 2, 9, 11, 12, 36, 37] [(0, .pointer (some ⟨a3, 0, none⟩)), (1, .pointer (some ⟨a4, 0, none⟩)), (2, .int .i64 a8), (9, .slice a9 a5.length b3), (11, .slice b1 a7.length b5), (12, .int .i64 a0), (36, .slice b0 a6.length b4), (37, .pointer (some ⟨b9, 0, none⟩))] (by kernel_rfl) ?_
      refine EL.of (EO.Y (YO.loadBox hS 0 rfl 36 0 12 (.agg #[.int .i32 ((a1.getD a0.toNat zS53).f0.f0), .int .i64 ((a1.getD a0.toNat zS53).f0.f1), .int .i64 ((a1.getD a0.toNat zS53).f0.f2), .slice a2.1 ((a1.getD a0.toNat zS53).f0.f3).length a2.2, .int .i32 ((a1.getD a0.toNat zS53).f0.f4.f0), .int .i32 ((a1.getD a0.toNat zS53).f0.f4.f1), .int .i32 ((a1.getD a0.toNat zS53).f0.f4.f2), .int .i32 ((a1.getD a0.toNat zS53).f0.f4.f3), .int .i64 ((a1.getD a0.toNat zS53).f0.f5), .int .i64 ((a1.getD a0.toNat zS53).f0.f6), .int .u32 ((a1.getD a0.toNat zS53).f0.f7), .int .i64 ((a1.getD a0.toNat zS53).f0.f8)]) 38 (by kernel_rfl) (by kernel_rfl) (by kernel_rfl) (by kernel_rfl)) ?_)
      obtain ⟨g7, m6, H⟩ := lt_out H
      refine EL.of (EO.lit hS kS36 36 37 1 #[(0, .agg #[.int .i32 ((a1.getD a0.toNat zS53).f0.f0), .int .i64 ((a1.getD a0.toNat zS53).f0.f1), .int .i64 ((a1.getD a0.toNat zS53).f0.f2), .slice a2.1 ((a1.getD a0.toNat zS53).f0.f3).length a2.2, .int .i32 ((a1.getD a0.toNat zS53).f0.f4.f0), .int .i32 ((a1.getD a0.toNat zS53).f0.f4.f1), .int .i32 ((a1.getD a0.toNat zS53).f0.f4.f2), .int .i32 ((a1.getD a0.toNat zS53).f0.f4.f3), .int .i64 ((a1.getD a0.toNat zS53).f0.f5), .int .i64 ((a1.getD a0.toNat zS53).f0.f6), .int .u32 ((a1.getD a0.toNat zS53).f0.f7), .int .i64 ((a1.getD a0.toNat zS53).f0.f8)])] [.int .i32 ((a1.getD a0.toNat zS53).f0.f0), .int .i64 ((a1.getD a0.toNat zS53).f0.f1), .int .i64 ((a1.getD a0.toNat zS53).f0.f2), .slice a2.1 ((a1.getD a0.toNat zS53).f0.f3).length a2.2, .int .i32 ((a1.getD a0.toNat zS53).f0.f4.f0), .int .i32 ((a1.getD a0.toNat zS53).f0.f4.f1), .int .i32 ((a1.getD a0.toNat zS53).f0.f4.f2), .int .i32 ((a1.getD a0.toNat zS53).f0.f4.f3), .int .i64 ((a1.getD a0.toNat zS53).f0.f5), .int .i64 ((a1.getD a0.toNat zS53).f0.f6), .int .u32 ((a1.getD a0.toNat zS53).f0.f7), .int .i64 ((a1.getD a0.toNat zS53).f0.f8)] g7 39 (by kernel_rfl) (by kernel_rfl) (by kernel_rfl) (fun _ => (by kernel_rfl)) (by rw [m6]; rfl) (by kernel_rfl) (fun w G hr => (by rw [m6]; exact ⟨[.int .i32 ((a1.getD a0.toNat zS53).f0.f0), .int .i64 ((a1.getD a0.toNat zS53).f0.f1), .int .i64 ((a1.getD a0.toNat zS53).f0.f2), .slice a2.1 ((a1.getD a0.toNat zS53).f0.f3).length a2.2, .int .i32 ((a1.getD a0.toNat zS53).f0.f4.f0), .int .i32 ((a1.getD a0.toNat zS53).f0.f4.f1), .int .i32 ((a1.getD a0.toNat zS53).f0.f4.f2), .int .i32 ((a1.getD a0.toNat zS53).f0.f4.f3), .int .i64 ((a1.getD a0.toNat zS53).f0.f5), .int .i64 ((a1.getD a0.toNat zS53).f0.f6), .int .u32 ((a1.getD a0.toNat zS53).f0.f7), .int .i64 ((a1.getD a0.toNat zS53).f0.f8)], [], rfl, ⟨[.int .i32 ((a1.getD a0.toNat zS53).f0.f0)], [.int .i64 ((a1.getD a0.toNat zS53).f0.f1), .int .i64 ((a1.getD a0.toNat zS53).f0.f2), .slice a2.1 ((a1.getD a0.toNat zS53).f0.f3).length a2.2, .int .i32 ((a1.getD a0.toNat zS53).f0.f4.f0), .int .i32 ((a1.getD a0.toNat zS53).f0.f4.f1), .int .i32 ((a1.getD a0.toNat zS53).f0.f4.f2), .int .i32 ((a1.getD a0.toNat zS53).f0.f4.f3), .int .i64 ((a1.getD a0.toNat zS53).f0.f5), .int .i64 ((a1.getD a0.toNat zS53).f0.f6), .int .u32 ((a1.getD a0.toNat zS53).f0.f7), .int .i64 ((a1.getD a0.toNat zS53).f0.f8)], rfl, rfl, ⟨[.int .i64 ((a1.getD a0.toNat zS53).f0.f1)], [.int .i64 ((a1.getD a0.toNat zS53).f0.f2), .slice a2.1 ((a1.getD a0.toNat zS53).f0.f3).length a2.2, .int .i32 ((a1.getD a0.toNat zS53).f0.f4.f0), .int .i32 ((a1.getD a0.toNat zS53).f0.f4.f1), .int .i32 ((a1.getD a0.toNat zS53).f0.f4.f2), .int .i32 ((a1.getD a0.toNat zS53).f0.f4.f3), .int .i64 ((a1.getD a0.toNat zS53).f0.f5), .int .i64 ((a1.getD a0.toNat zS53).f0.f6), .int .u32 ((a1.getD a0.toNat zS53).f0.f7), .int .i64 ((a1.getD a0.toNat zS53).f0.f8)], rfl, rfl, ⟨[.int .i64 ((a1.getD a0.toNat zS53).f0.f2)], [.slice a2.1 ((a1.getD a0.toNat zS53).f0.f3).length a2.2, .int .i32 ((a1.getD a0.toNat zS53).f0.f4.f0), .int .i32 ((a1.getD a0.toNat zS53).f0.f4.f1), .int .i32 ((a1.getD a0.toNat zS53).f0.f4.f2), .int .i32 ((a1.getD a0.toNat zS53).f0.f4.f3), .int .i64 ((a1.getD a0.toNat zS53).f0.f5), .int .i64 ((a1.getD a0.toNat zS53).f0.f6), .int .u32 ((a1.getD a0.toNat zS53).f0.f7), .int .i64 ((a1.getD a0.toNat zS53).f0.f8)], rfl, rfl, ⟨[.slice a2.1 ((a1.getD a0.toNat zS53).f0.f3).length a2.2], [.int .i32 ((a1.getD a0.toNat zS53).f0.f4.f0), .int .i32 ((a1.getD a0.toNat zS53).f0.f4.f1), .int .i32 ((a1.getD a0.toNat zS53).f0.f4.f2), .int .i32 ((a1.getD a0.toNat zS53).f0.f4.f3), .int .i64 ((a1.getD a0.toNat zS53).f0.f5), .int .i64 ((a1.getD a0.toNat zS53).f0.f6), .int .u32 ((a1.getD a0.toNat zS53).f0.f7), .int .i64 ((a1.getD a0.toNat zS53).f0.f8)], rfl, (hr _ (List.mem_of_getElem? (i := 0) rfl)), ⟨[.int .i32 ((a1.getD a0.toNat zS53).f0.f4.f0), .int .i32 ((a1.getD a0.toNat zS53).f0.f4.f1), .int .i32 ((a1.getD a0.toNat zS53).f0.f4.f2), .int .i32 ((a1.getD a0.toNat zS53).f0.f4.f3)], [.int .i64 ((a1.getD a0.toNat zS53).f0.f5), .int .i64 ((a1.getD a0.toNat zS53).f0.f6), .int .u32 ((a1.getD a0.toNat zS53).f0.f7), .int .i64 ((a1.getD a0.toNat zS53).f0.f8)], rfl, ⟨[.int .i32 ((a1.getD a0.toNat zS53).f0.f4.f0)], [.int .i32 ((a1.getD a0.toNat zS53).f0.f4.f1), .int .i32 ((a1.getD a0.toNat zS53).f0.f4.f2), .int .i32 ((a1.getD a0.toNat zS53).f0.f4.f3)], rfl, rfl, ⟨[.int .i32 ((a1.getD a0.toNat zS53).f0.f4.f1)], [.int .i32 ((a1.getD a0.toNat zS53).f0.f4.f2), .int .i32 ((a1.getD a0.toNat zS53).f0.f4.f3)], rfl, rfl, ⟨[.int .i32 ((a1.getD a0.toNat zS53).f0.f4.f2)], [.int .i32 ((a1.getD a0.toNat zS53).f0.f4.f3)], rfl, rfl, ⟨[.int .i32 ((a1.getD a0.toNat zS53).f0.f4.f3)], [], rfl, rfl, rfl⟩⟩⟩⟩, ⟨[.int .i64 ((a1.getD a0.toNat zS53).f0.f5)], [.int .i64 ((a1.getD a0.toNat zS53).f0.f6), .int .u32 ((a1.getD a0.toNat zS53).f0.f7), .int .i64 ((a1.getD a0.toNat zS53).f0.f8)], rfl, rfl, ⟨[.int .i64 ((a1.getD a0.toNat zS53).f0.f6)], [.int .u32 ((a1.getD a0.toNat zS53).f0.f7), .int .i64 ((a1.getD a0.toNat zS53).f0.f8)], rfl, rfl, ⟨[.int .u32 ((a1.getD a0.toNat zS53).f0.f7)], [.int .i64 ((a1.getD a0.toNat zS53).f0.f8)], rfl, rfl, ⟨[.int .i64 ((a1.getD a0.toNat zS53).f0.f8)], [], rfl, rfl, rfl⟩⟩⟩⟩⟩⟩⟩⟩⟩, rfl⟩)) ?_)
      intro m3 w hS
      obtain ⟨m9, H⟩ := ite_in H
      obtain ⟨e5, n6, H⟩ := lt_out H
      refine EL.of (EO.append hS 37 37 36 96 8 kS36 b0 b4 a6 rfl (some ⟨m3, 0, none⟩) 1 g7 (Rd.own 0 36 rfl) e5 n6 (fun i2 i5 => Ass.own 36 kS36 (some ⟨m3, 0, none⟩) 1 g7 :: Ass.box 53 b9 [.int .i32 ((a1.getD a0.toNat zS53).f0.f0), .int .i64 ((a1.getD a0.toNat zS53).f0.f1), .int .i64 ((a1.getD a0.toNat zS53).f0.f2), .slice a2.1 ((a1.getD a0.toNat zS53).f0.f3).length a2.2, .int .i32 ((a1.getD a0.toNat zS53).f0.f4.f0), .int .i32 ((a1.getD a0.toNat zS53).f0.f4.f1), .int .i32 ((a1.getD a0.toNat zS53).f0.f4.f2), .int .i32 ((a1.getD a0.toNat zS53).f0.f4.f3), .int .i64 ((a1.getD a0.toNat zS53).f0.f5), .int .i64 ((a1.getD a0.toNat zS53).f0.f6), .int .u32 ((a1.getD a0.toNat zS53).f0.f7), .int .i64 ((a1.getD a0.toNat zS53).f0.f8), .int .i32 ((a1.getD a0.toNat zS53).f1)] :: Ass.box 49 a3 [.slice (some c5) a1.length c0] :: Ass.own 53 kS53 (some c5) c0 a1 :: Ass.box 105 a4 [.slice c1 b7.length c3, .slice c2 b8.length c4] :: Ass.own 3 (Kd.int .i64) c1 c3 b7 :: Ass.deep 94 96 kS96 c2 c4 b8 :: Ass.own 36 kS36 a9 b3 a5 :: Ass.own 36 kS36 i2 i5 e5 :: Ass.own 53 kS53 b1 b5 a7 :: os) 40 (by kernel_rfl) (by kernel_rfl) (by kernel_rfl) (by kernel_rfl) m9 (fun _ _ => rfl) ?_)
      intro i2 i5 w hS
      refine EL.quick 1 [0, 1, 2, 9, 10, 11, 12] [(0, .pointer (some ⟨a3, 0, none⟩)), (1, .pointer (some ⟨a4, 0, none⟩)), (2, .int .i64 a8), (9, .slice a9 a5.length b3), (10, .slice i2 e5.length i5), (11, .slice b1 a7.length b5), (12, .int .i64 a0)] (by kernel_rfl) ?_
      refine EL.done (by kernel_rfl) ?_
      refine EQ.code ?_
      refine EW.exit (id := 1) (by kernel_rfl) ?_
      refine EQ.exitCode ?_
      refine EQ.exitHere ?_
      refine EQ.to ?_
      refine EQ.keep [0, 1, 2, 9, 10, 11, 12] [(0, .pointer (some ⟨a3, 0, none⟩)), (1, .pointer (some ⟨a4, 0, none⟩)), (2, .int .i64 a8), (9, .slice a9 a5.length b3), (10, .slice i2 e5.length i5), (11, .slice b1 a7.length b5), (12, .int .i64 a0)] (by kernel_rfl) ?_
      exact fun a ha => ⟨a5, e5, a7, a8, b9, a2.1, a2.2, a9, b3, i2, i5, b1, b5, ha, (hS.re [9, 9, 9, 9, 9, 9, 9, 9, 9] [9] rfl (sub_cons 0 rfl (sub_tail (sub_self)))), H⟩
     ·rw [if_neg j4] at H
      refine EW.skip (by kernel_rfl) ?_
      refine EQ.code ?_
      refine EW.seq (x := Cd20.r.r.r.r.l.r.l.l.r.l.l.r.r.l) (y := Cd20.r.r.r.r.l.r.l.l.r.l.l.r.r.r) (by kernel_rfl) ?_
      refine EW.region (id := 10) (ops := Cd20.r.r.r.r.l.r.l.l.r.l.l.r.r.l.ops) (by kernel_rfl) ?_
      refine EL.quick 3 [0, 1, 2, 9, 10, 11, 12, 13] [(0, .pointer (some ⟨a3, 0, none⟩)), (1, .pointer (some ⟨a4, 0, none⟩)), (2, .int .i64 (IntKind.i64.wrap (a8 - 1))), (9, .slice a9 a5.length b3), (10, .slice b0 a6.length b4), (11, .slice b1 a7.length b5), (12, .int .i64 a0), (13, .pointer (some ⟨b9, 0, none⟩))] (by kernel_rfl) ?_
      refine EL.done (by kernel_rfl) ?_
      refine EQ.code ?_
      refine EW.seq (x := Cd20.r.r.r.r.l.r.l.l.r.l.l.r.r.r.l) (y := Cd20.r.r.r.r.l.r.l.l.r.l.l.r.r.r.r) (by kernel_rfl) ?_
      refine EW.region (id := 11) (ops := Cd20.r.r.r.r.l.r.l.l.r.l.l.r.r.r.l.ops) (by kernel_rfl) ?_
      refine EL.quick 2 [0, 1, 2, 9, 10, 11, 12, 13, 44, 45] [(0, .pointer (some ⟨a3, 0, none⟩)), (1, .pointer (some ⟨a4, 0, none⟩)), (2, .int .i64 (IntKind.i64.wrap (a8 - 1))), (9, .slice a9 a5.length b3), (10, .slice b0 a6.length b4), (11, .slice b1 a7.length b5), (12, .int .i64 a0), (13, .pointer (some ⟨b9, 0, none⟩)), (44, .pointer (some ⟨a4, 0, none⟩)), (45, .pointer (some ⟨b9, 12, none⟩))] (by kernel_rfl) ?_
      refine EL.of (EO.Y (YO.loadBox hS 0 rfl 21 12 1 (.int .i32 ((a1.getD a0.toNat zS53).f1)) 46 (by kernel_rfl) (by kernel_rfl) (by kernel_rfl) (by kernel_rfl)) ?_)
      have hS : St B _ (Ass.box 105 a4 [.slice c1 b7.length c3, .slice c2 b8.length c4] :: Ass.own 3 (Kd.int .i64) c1 c3 b7 :: Ass.deep 94 96 kS96 c2 c4 b8 :: Ass.box 53 b9 [.int .i32 ((a1.getD a0.toNat zS53).f0.f0), .int .i64 ((a1.getD a0.toNat zS53).f0.f1), .int .i64 ((a1.getD a0.toNat zS53).f0.f2), .slice a2.1 ((a1.getD a0.toNat zS53).f0.f3).length a2.2, .int .i32 ((a1.getD a0.toNat zS53).f0.f4.f0), .int .i32 ((a1.getD a0.toNat zS53).f0.f4.f1), .int .i32 ((a1.getD a0.toNat zS53).f0.f4.f2), .int .i32 ((a1.getD a0.toNat zS53).f0.f4.f3), .int .i64 ((a1.getD a0.toNat zS53).f0.f5), .int .i64 ((a1.getD a0.toNat zS53).f0.f6), .int .u32 ((a1.getD a0.toNat zS53).f0.f7), .int .i64 ((a1.getD a0.toNat zS53).f0.f8), .int .i32 ((a1.getD a0.toNat zS53).f1)] :: Ass.box 49 a3 [.slice (some c5) a1.length c0] :: Ass.own 53 kS53 (some c5) c0 a1 :: Ass.own 36 kS36 a9 b3 a5 :: Ass.own 36 kS36 b0 b4 a6 :: Ass.own 53 kS53 b1 b5 a7 :: os) (Ro.sl (Kd.int .i32) a2.1 a2.2 ((a1.getD a0.toNat zS53).f0.f3) :: rs) := hS.re [5, 5, 5] [] rfl sub_self
      obtain ⟨b6, e1, n2, H⟩ := b2_out H
      refine EL.of (EO.callD 48 [.pointer (some ⟨a4, 0, none⟩), .int .i32 ((a1.getD a0.toNat zS53).f1)] _ 47 (by kernel_rfl) (by kernel_rfl) (by kernel_rfl) (confidantref12_Futures_Get.calls n2 hS) ?_)
      rintro v w ⟨rfl, hS⟩
      refine EL.quick 3 [0, 1, 2, 9, 10, 11, 12, 13, 48, 49] [(0, .pointer (some ⟨a3, 0, none⟩)), (1, .pointer (some ⟨a4, 0, none⟩)), (2, .int .i64 (IntKind.i64.wrap (a8 - 1))), (9, .slice a9 a5.length b3), (10, .slice b0 a6.length b4), (11, .slice b1 a7.length b5), (12, .int .i64 a0), (13, .pointer (some ⟨b9, 0, none⟩)), (48, .agg #[.int .i64 b6.f0, .int .i64 b6.f1, .int .i32 b6.f2, .int .i64 b6.f3]), (49, .bool (e1))] (by kernel_rfl) ?_
      refine EL.of (EO.alloc hS 96 (.agg #[.int .i64 0, .int .i64 0, .int .i32 0, .int .i64 0]) [.int .i64 0, .int .i64 0, .int .i32 0, .int .i64 0] 14 (by kernel_rfl) (by kernel_rfl) (by kernel_rfl) (by kernel_rfl) (by first | rfl | kernel_rfl) ?_)
      intro c8 w hS
      refine EL.of (EO.storeBox (os' := Ass.box 96 c8 [.int .i64 b6.f0, .int .i64 b6.f1, .int .i32 b6.f2, .int .i64 b6.f3] :: Ass.box 105 a4 [.slice c1 b7.length c3, .slice c2 b8.length c4] :: Ass.own 3 (Kd.int .i64) c1 c3 b7 :: Ass.deep 94 96 kS96 c2 c4 b8 :: Ass.box 53 b9 [.int .i32 ((a1.getD a0.toNat zS53).f0.f0), .int .i64 ((a1.getD a0.toNat zS53).f0.f1), .int .i64 ((a1.getD a0.toNat zS53).f0.f2), .slice a2.1 ((a1.getD a0.toNat zS53).f0.f3).length a2.2, .int .i32 ((a1.getD a0.toNat zS53).f0.f4.f0), .int .i32 ((a1.getD a0.toNat zS53).f0.f4.f1), .int .i32 ((a1.getD a0.toNat zS53).f0.f4.f2), .int .i32 ((a1.getD a0.toNat zS53).f0.f4.f3), .int .i64 ((a1.getD a0.toNat zS53).f0.f5), .int .i64 ((a1.getD a0.toNat zS53).f0.f6), .int .u32 ((a1.getD a0.toNat zS53).f0.f7), .int .i64 ((a1.getD a0.toNat zS53).f0.f8), .int .i32 ((a1.getD a0.toNat zS53).f1)] :: Ass.box 49 a3 [.slice (some c5) a1.length c0] :: Ass.own 53 kS53 (some c5) c0 a1 :: Ass.own 36 kS36 a9 b3 a5 :: Ass.own 36 kS36 b0 b4 a6 :: Ass.own 53 kS53 b1 b5 a7 :: os) hS 0 rfl 96 0 (.agg #[.int .i64 b6.f0, .int .i64 b6.f1, .int .i32 b6.f2, .int .i64 b6.f3]) [.int .i64 b6.f0, .int .i64 b6.f1, .int .i32 b6.f2, .int .i64 b6.f3] (by kernel_rfl) (by kernel_rfl) (by kernel_rfl) (by kernel_rfl) (by kernel_rfl) (by kernel_rfl) rfl rfl ?_)
      intro w hS
      refine EL.quick 1 [0, 1, 2, 9, 10, 11, 12, 13, 14, 15] [(0, .pointer (some ⟨a3, 0, none⟩)), (1, .pointer (some ⟨a4, 0, none⟩)), (2, .int .i64 (IntKind.i64.wrap (a8 - 1))), (9, .slice a9 a5.length b3), (10, .slice b0 a6.length b4), (11, .slice b1 a7.length b5), (12, .int .i64 a0), (13, .pointer (some ⟨b9, 0, none⟩)), (14, .pointer (some ⟨c8, 0, none⟩)), (15, .bool (e1))] (by kernel_rfl) ?_
      refine EL.done (by kernel_rfl) ?_
      refine EQ.code ?_
      obtain ⟨j0, n5, H⟩ := lt_out H
      refine EW.cut (x := Cd20.r.r.r.r.l.r.l.l.r.l.l.r.r.r.r.l) (y := Cd20.r.r.r.r.l.r.l.l.r.l.l.r.r.r.r.r) (fun a w => ∃ i1 : Bool, Sat 72 [(0, .pointer (some ⟨a3, 0, none⟩)), (1, .pointer (some ⟨a4, 0, none⟩)), (2, .int .i64 (IntKind.i64.wrap (a8 - 1))), (9, .slice a9 a5.length b3), (10, .slice b0 a6.length b4), (11, .slice b1 a7.length b5), (12, .int .i64 a0), (13, .pointer (some ⟨b9, 0, none⟩)), (55, .bool (i1))] a ∧ St B w (Ass.box 96 c8 [.int .i64 b6.f0, .int .i64 b6.f1, .int .i32 b6.f2, .int .i64 b6.f3] :: Ass.box 105 a4 [.slice c1 b7.length c3, .slice c2 b8.length c4] :: Ass.own 3 (Kd.int .i64) c1 c3 b7 :: Ass.deep 94 96 kS96 c2 c4 b8 :: Ass.box 53 b9 [.int .i32 ((a1.getD a0.toNat zS53).f0.f0), .int .i64 ((a1.getD a0.toNat zS53).f0.f1), .int .i64 ((a1.getD a0.toNat zS53).f0.f2), .slice a2.1 ((a1.getD a0.toNat zS53).f0.f3).length a2.2, .int .i32 ((a1.getD a0.toNat zS53).f0.f4.f0), .int .i32 ((a1.getD a0.toNat zS53).f0.f4.f1), .int .i32 ((a1.getD a0.toNat zS53).f0.f4.f2), .int .i32 ((a1.getD a0.toNat zS53).f0.f4.f3), .int .i64 ((a1.getD a0.toNat zS53).f0.f5), .int .i64 ((a1.getD a0.toNat zS53).f0.f6), .int .u32 ((a1.getD a0.toNat zS53).f0.f7), .int .i64 ((a1.getD a0.toNat zS53).f0.f8), .int .i32 ((a1.getD a0.toNat zS53).f1)] :: Ass.box 49 a3 [.slice (some c5) a1.length c0] :: Ass.own 53 kS53 (some c5) c0 a1 :: Ass.own 36 kS36 a9 b3 a5 :: Ass.own 36 kS36 b0 b4 a6 :: Ass.own 53 kS53 b1 b5 a7 :: os) (Ro.sl (Kd.int .i32) a2.1 a2.2 ((a1.getD a0.toNat zS53).f0.f3) :: rs) ∧ j0 i1 = some (e8, e9, f9, i0)) (by kernel_rfl) ?_ (fun a w hI => ?_)
      ·refine EW.region (id := 12) (ops := Cd20.r.r.r.r.l.r.l.l.r.l.l.r.r.r.r.l.ops) (by kernel_rfl) ?_
       refine EL.quick 2 [0, 1, 2, 9, 10, 11, 12, 13, 14, 51] [(0, .pointer (some ⟨a3, 0, none⟩)), (1, .pointer (some ⟨a4, 0, none⟩)), (2, .int .i64 (IntKind.i64.wrap (a8 - 1))), (9, .slice a9 a5.length b3), (10, .slice b0 a6.length b4), (11, .slice b1 a7.length b5), (12, .int .i64 a0), (13, .pointer (some ⟨b9, 0, none⟩)), (14, .pointer (some ⟨c8, 0, none⟩)), (51, .bool (e1))] (by kernel_rfl) ?_
       by_cases i9 : e1 = true
       ·rw [if_pos i9] at H
        refine EL.keep [0, 1, 2, 9, 10, 11, 12, 13, 14, 51] [(0, .pointer (some ⟨a3, 0, none⟩)), (1, .pointer (some ⟨a4, 0, none⟩)), (2, .int .i64 (IntKind.i64.wrap (a8 - 1))), (9, .slice a9 a5.length b3), (10, .slice b0 a6.length b4), (11, .slice b1 a7.length b5), (12, .int .i64 a0), (13, .pointer (some ⟨b9, 0, none⟩)), (14, .pointer (some ⟨c8, 0, none⟩)), (51, .bool (e1))] (by kernel_rfl) ?_
        refine EL.as' [(0, .pointer (some ⟨a3, 0, none⟩)), (1, .pointer (some ⟨a4, 0, none⟩)), (2, .int .i64 (IntKind.i64.wrap (a8 - 1))), (9, .slice a9 a5.length b3), (10, .slice b0 a6.length b4), (11, .slice b1 a7.length b5), (12, .int .i64 a0), (13, .pointer (some ⟨b9, 0, none⟩)), (14, .pointer (some ⟨c8, 0, none⟩)), (51, .bool (true))] (by simp only [i9, Bool.not_true, Bool.not_false]) ?_
        refine EL.quick 1 [0, 1, 2, 9, 10, 11, 12, 13, 51, 52] [(0, .pointer (some ⟨a3, 0, none⟩)), (1, .pointer (some ⟨a4, 0, none⟩)), (2, .int .i64 (IntKind.i64.wrap (a8 - 1))), (9, .slice a9 a5.length b3), (10, .slice b0 a6.length b4), (11, .slice b1 a7.length b5), (12, .int .i64 a0), (13, .pointer (some ⟨b9, 0, none⟩)), (51, .bool (true)), (52, .pointer (some ⟨c8, 1, none⟩))] (by kernel_rfl) ?_
        refine EL.of (EO.Y (YO.loadBox hS 0 rfl 3 1 1 (.int .i64 b6.f1) 53 (by kernel_rfl) (by kernel_rfl) (by kernel_rfl) (by kernel_rfl)) ?_)
        refine EL.quick 2 [0, 1, 2, 9, 10, 11, 12, 13, 52, 53, 54, 55] [(0, .pointer (some ⟨a3, 0, none⟩)), (1, .pointer (some ⟨a4, 0, none⟩)), (2, .int .i64 (IntKind.i64.wrap (a8 - 1))), (9, .slice a9 a5.length b3), (10, .slice b0 a6.length b4), (11, .slice b1 a7.length b5), (12, .int .i64 a0), (13, .pointer (some ⟨b9, 0, none⟩)), (52, .pointer (some ⟨c8, 1, none⟩)), (53, .int .i64 b6.f1), (54, .bool (!(decide (b6.f1 = 0)))), (55, .bool (!(decide (b6.f1 = 0))))] (by kernel_rfl) ?_
        refine EL.done (by kernel_rfl) ?_
        refine EQ.to ?_
        refine EQ.keep [0, 1, 2, 9, 10, 11, 12, 13, 55] [(0, .pointer (some ⟨a3, 0, none⟩)), (1, .pointer (some ⟨a4, 0, none⟩)), (2, .int .i64 (IntKind.i64.wrap (a8 - 1))), (9, .slice a9 a5.length b3), (10, .slice b0 a6.length b4), (11, .slice b1 a7.length b5), (12, .int .i64 a0), (13, .pointer (some ⟨b9, 0, none⟩)), (55, .bool (!(decide (b6.f1 = 0))))] (by kernel_rfl) ?_
        exact fun a ha => ⟨!(decide (b6.f1 = 0)), ha, (hS.re [9, 9, 9, 9, 9, 9, 9, 9, 9, 9] [] rfl (sub_cons 0 rfl (sub_tail (sub_self)))), H⟩
       ·rw [if_neg i9] at H
        refine EL.keep [0, 1, 2, 9, 10, 11, 12, 13, 14, 51] [(0, .pointer (some ⟨a3, 0, none⟩)), (1, .pointer (some ⟨a4, 0, none⟩)), (2, .int .i64 (IntKind.i64.wrap (a8 - 1))), (9, .slice a9 a5.length b3), (10, .slice b0 a6.length b4), (11, .slice b1 a7.length b5), (12, .int .i64 a0), (13, .pointer (some ⟨b9, 0, none⟩)), (14, .pointer (some ⟨c8, 0, none⟩)), (51, .bool (e1))] (by kernel_rfl) ?_
        refine EL.as' [(0, .pointer (some ⟨a3, 0, none⟩)), (1, .pointer (some ⟨a4, 0, none⟩)), (2, .int .i64 (IntKind.i64.wrap (a8 - 1))), (9, .slice a9 a5.length b3), (10, .slice b0 a6.length b4), (11, .slice b1 a7.length b5), (12, .int .i64 a0), (13, .pointer (some ⟨b9, 0, none⟩)), (14, .pointer (some ⟨c8, 0, none⟩)), (51, .bool (false))] (by simp only [(Bool.eq_false_iff.2 i9), Bool.not_true, Bool.not_false]) ?_
        refine EL.quick 4 [0, 1, 2, 9, 10, 11, 12, 13, 55] [(0, .pointer (some ⟨a3, 0, none⟩)), (1, .pointer (some ⟨a4, 0, none⟩)), (2, .int .i64 (IntKind.i64.wrap (a8 - 1))), (9, .slice a9 a5.length b3), (10, .slice b0 a6.length b4), (11, .slice b1 a7.length b5), (12, .int .i64 a0), (13, .pointer (some ⟨b9, 0, none⟩)), (55, .bool (false))] (by kernel_rfl) ?_
        refine EL.done (by kernel_rfl) ?_
        refine EQ.to ?_
        refine EQ.keep [0, 1, 2, 9, 10, 11, 12, 13, 55] [(0, .pointer (some ⟨a3, 0, none⟩)), (1, .pointer (some ⟨a4, 0, none⟩)), (2, .int .i64 (IntKind.i64.wrap (a8 - 1))), (9, .slice a9 a5.length b3), (10, .slice b0 a6.length b4), (11, .slice b1 a7.length b5), (12, .int .i64 a0), (13, .pointer (some ⟨b9, 0, none⟩)), (55, .bool (false))] (by kernel_rfl) ?_
        exact fun a ha => ⟨false, ha, (hS.re [9, 9, 9, 9, 9, 9, 9, 9, 9, 9] [] rfl (sub_cons 0 rfl (sub_tail (sub_self)))), H⟩
      ·obtain ⟨i1, ha, hS, H⟩ := hI
       rw [n5] at H
       (try dsimp only at H)
       refine EW.at ?_ a ha
       clear ha a
       refine EW.condP' (o := (.tmp 55)) (x := Cd20.r.r.r.r.l.r.l.l.r.l.l.r.r.r.r.r.l) (y := Cd20.r.r.r.r.l.r.l.l.r.l.l.r.r.r.r.r.r) (i1) (by kernel_rfl) (by kernel_rfl) (fun j5 => ?_) (fun j5 => ?_)
       ·rw [if_pos j5] at H
        refine EW.region (id := 13) (ops := Cd20.r.r.r.r.l.r.l.l.r.l.l.r.r.r.r.r.l.ops) (by kernel_rfl) ?_
        refine EL.quick 2 [0, 1, 2, 10, 11, 12, 56, 57] [(0, .pointer (some ⟨a3, 0, none⟩)), (1, .pointer (some ⟨a4, 0, none⟩)), (2, .int .i64 (IntKind.i64.wrap (a8 - 1))), (10, .slice b0 a6.length b4), (11, .slice b1 a7.length b5), (12, .int .i64 a0), (56, .slice a9 a5.length b3), (57, .pointer (some ⟨b9, 0, none⟩))] (by kernel_rfl) ?_
        refine EL.of (EO.Y (YO.loadBox hS 4 rfl 36 0 12 (.agg #[.int .i32 ((a1.getD a0.toNat zS53).f0.f0), .int .i64 ((a1.getD a0.toNat zS53).f0.f1), .int .i64 ((a1.getD a0.toNat zS53).f0.f2), .slice a2.1 ((a1.getD a0.toNat zS53).f0.f3).length a2.2, .int .i32 ((a1.getD a0.toNat zS53).f0.f4.f0), .int .i32 ((a1.getD a0.toNat zS53).f0.f4.f1), .int .i32 ((a1.getD a0.toNat zS53).f0.f4.f2), .int .i32 ((a1.getD a0.toNat zS53).f0.f4.f3), .int .i64 ((a1.getD a0.toNat zS53).f0.f5), .int .i64 ((a1.getD a0.toNat zS53).f0.f6), .int .u32 ((a1.getD a0.toNat zS53).f0.f7), .int .i64 ((a1.getD a0.toNat zS53).f0.f8)]) 58 (by kernel_rfl) (by kernel_rfl) (by kernel_rfl) (by kernel_rfl)) ?_)
        obtain ⟨g8, m7, H⟩ := lt_out H
        refine EL.of (EO.lit hS kS36 36 37 1 #[(0, .agg #[.int .i32 ((a1.getD a0.toNat zS53).f0.f0), .int .i64 ((a1.getD a0.toNat zS53).f0.f1), .int .i64 ((a1.getD a0.toNat zS53).f0.f2), .slice a2.1 ((a1.getD a0.toNat zS53).f0.f3).length a2.2, .int .i32 ((a1.getD a0.toNat zS53).f0.f4.f0), .int .i32 ((a1.getD a0.toNat zS53).f0.f4.f1), .int .i32 ((a1.getD a0.toNat zS53).f0.f4.f2), .int .i32 ((a1.getD a0.toNat zS53).f0.f4.f3), .int .i64 ((a1.getD a0.toNat zS53).f0.f5), .int .i64 ((a1.getD a0.toNat zS53).f0.f6), .int .u32 ((a1.getD a0.toNat zS53).f0.f7), .int .i64 ((a1.getD a0.toNat zS53).f0.f8)])] [.int .i32 ((a1.getD a0.toNat zS53).f0.f0), .int .i64 ((a1.getD a0.toNat zS53).f0.f1), .int .i64 ((a1.getD a0.toNat zS53).f0.f2), .slice a2.1 ((a1.getD a0.toNat zS53).f0.f3).length a2.2, .int .i32 ((a1.getD a0.toNat zS53).f0.f4.f0), .int .i32 ((a1.getD a0.toNat zS53).f0.f4.f1), .int .i32 ((a1.getD a0.toNat zS53).f0.f4.f2), .int .i32 ((a1.getD a0.toNat zS53).f0.f4.f3), .int .i64 ((a1.getD a0.toNat zS53).f0.f5), .int .i64 ((a1.getD a0.toNat zS53).f0.f6), .int .u32 ((a1.getD a0.toNat zS53).f0.f7), .int .i64 ((a1.getD a0.toNat zS53).f0.f8)] g8 59 (by kernel_rfl) (by kernel_rfl) (by kernel_rfl) (fun _ => (by kernel_rfl)) (by rw [m7]; rfl) (by kernel_rfl) (fun w G hr => (by rw [m7]; exact ⟨[.int .i32 ((a1.getD a0.toNat zS53).f0.f0), .int .i64 ((a1.getD a0.toNat zS53).f0.f1), .int .i64 ((a1.getD a0.toNat zS53).f0.f2), .slice a2.1 ((a1.getD a0.toNat zS53).f0.f3).length a2.2, .int .i32 ((a1.getD a0.toNat zS53).f0.f4.f0), .int .i32 ((a1.getD a0.toNat zS53).f0.f4.f1), .int .i32 ((a1.getD a0.toNat zS53).f0.f4.f2), .int .i32 ((a1.getD a0.toNat zS53).f0.f4.f3), .int .i64 ((a1.getD a0.toNat zS53).f0.f5), .int .i64 ((a1.getD a0.toNat zS53).f0.f6), .int .u32 ((a1.getD a0.toNat zS53).f0.f7), .int .i64 ((a1.getD a0.toNat zS53).f0.f8)], [], rfl, ⟨[.int .i32 ((a1.getD a0.toNat zS53).f0.f0)], [.int .i64 ((a1.getD a0.toNat zS53).f0.f1), .int .i64 ((a1.getD a0.toNat zS53).f0.f2), .slice a2.1 ((a1.getD a0.toNat zS53).f0.f3).length a2.2, .int .i32 ((a1.getD a0.toNat zS53).f0.f4.f0), .int .i32 ((a1.getD a0.toNat zS53).f0.f4.f1), .int .i32 ((a1.getD a0.toNat zS53).f0.f4.f2), .int .i32 ((a1.getD a0.toNat zS53).f0.f4.f3), .int .i64 ((a1.getD a0.toNat zS53).f0.f5), .int .i64 ((a1.getD a0.toNat zS53).f0.f6), .int .u32 ((a1.getD a0.toNat zS53).f0.f7), .int .i64 ((a1.getD a0.toNat zS53).f0.f8)], rfl, rfl, ⟨[.int .i64 ((a1.getD a0.toNat zS53).f0.f1)], [.int .i64 ((a1.getD a0.toNat zS53).f0.f2), .slice a2.1 ((a1.getD a0.toNat zS53).f0.f3).length a2.2, .int .i32 ((a1.getD a0.toNat zS53).f0.f4.f0), .int .i32 ((a1.getD a0.toNat zS53).f0.f4.f1), .int .i32 ((a1.getD a0.toNat zS53).f0.f4.f2), .int .i32 ((a1.getD a0.toNat zS53).f0.f4.f3), .int .i64 ((a1.getD a0.toNat zS53).f0.f5), .int .i64 ((a1.getD a0.toNat zS53).f0.f6), .int .u32 ((a1.getD a0.toNat zS53).f0.f7), .int .i64 ((a1.getD a0.toNat zS53).f0.f8)], rfl, rfl, ⟨[.int .i64 ((a1.getD a0.toNat zS53).f0.f2)], [.slice a2.1 ((a1.getD a0.toNat zS53).f0.f3).length a2.2, .int .i32 ((a1.getD a0.toNat zS53).f0.f4.f0), .int .i32 ((a1.getD a0.toNat zS53).f0.f4.f1), .int .i32 ((a1.getD a0.toNat zS53).f0.f4.f2), .int .i32 ((a1.getD a0.toNat zS53).f0.f4.f3), .int .i64 ((a1.getD a0.toNat zS53).f0.f5), .int .i64 ((a1.getD a0.toNat zS53).f0.f6), .int .u32 ((a1.getD a0.toNat zS53).f0.f7), .int .i64 ((a1.getD a0.toNat zS53).f0.f8)], rfl, rfl, ⟨[.slice a2.1 ((a1.getD a0.toNat zS53).f0.f3).length a2.2], [.int .i32 ((a1.getD a0.toNat zS53).f0.f4.f0), .int .i32 ((a1.getD a0.toNat zS53).f0.f4.f1), .int .i32 ((a1.getD a0.toNat zS53).f0.f4.f2), .int .i32 ((a1.getD a0.toNat zS53).f0.f4.f3), .int .i64 ((a1.getD a0.toNat zS53).f0.f5), .int .i64 ((a1.getD a0.toNat zS53).f0.f6), .int .u32 ((a1.getD a0.toNat zS53).f0.f7), .int .i64 ((a1.getD a0.toNat zS53).f0.f8)], rfl, (hr _ (List.mem_of_getElem? (i := 0) rfl)), ⟨[.int .i32 ((a1.getD a0.toNat zS53).f0.f4.f0), .int .i32 ((a1.getD a0.toNat zS53).f0.f4.f1), .int .i32 ((a1.getD a0.toNat zS53).f0.f4.f2), .int .i32 ((a1.getD a0.toNat zS53).f0.f4.f3)], [.int .i64 ((a1.getD a0.toNat zS53).f0.f5), .int .i64 ((a1.getD a0.toNat zS53).f0.f6), .int .u32 ((a1.getD a0.toNat zS53).f0.f7), .int .i64 ((a1.getD a0.toNat zS53).f0.f8)], rfl, ⟨[.int .i32 ((a1.getD a0.toNat zS53).f0.f4.f0)], [.int .i32 ((a1.getD a0.toNat zS53).f0.f4.f1), .int .i32 ((a1.getD a0.toNat zS53).f0.f4.f2), .int .i32 ((a1.getD a0.toNat zS53).f0.f4.f3)], rfl, rfl, ⟨[.int .i32 ((a1.getD a0.toNat zS53).f0.f4.f1)], [.int .i32 ((a1.getD a0.toNat zS53).f0.f4.f2), .int .i32 ((a1.getD a0.toNat zS53).f0.f4.f3)], rfl, rfl, ⟨[.int .i32 ((a1.getD a0.toNat zS53).f0.f4.f2)], [.int .i32 ((a1.getD a0.toNat zS53).f0.f4.f3)], rfl, rfl, ⟨[.int .i32 ((a1.getD a0.toNat zS53).f0.f4.f3)], [], rfl, rfl, rfl⟩⟩⟩⟩, ⟨[.int .i64 ((a1.getD a0.toNat zS53).f0.f5)], [.int .i64 ((a1.getD a0.toNat zS53).f0.f6), .int .u32 ((a1.getD a0.toNat zS53).f0.f7), .int .i64 ((a1.getD a0.toNat zS53).f0.f8)], rfl, rfl, ⟨[.int .i64 ((a1.getD a0.toNat zS53).f0.f6)], [.int .u32 ((a1.getD a0.toNat zS53).f0.f7), .int .i64 ((a1.getD a0.toNat zS53).f0.f8)], rfl, rfl, ⟨[.int .u32 ((a1.getD a0.toNat zS53).f0.f7)], [.int .i64 ((a1.getD a0.toNat zS53).f0.f8)], rfl, rfl, ⟨[.int .i64 ((a1.getD a0.toNat zS53).f0.f8)], [], rfl, rfl, rfl⟩⟩⟩⟩⟩⟩⟩⟩⟩, rfl⟩)) ?_)
        intro m4 w hS
        obtain ⟨n0, H⟩ := ite_in H
        obtain ⟨e6, n7, H⟩ := lt_out H
        refine EL.of (EO.append hS 37 37 36 96 8 kS36 a9 b3 a5 rfl (some ⟨m4, 0, none⟩) 1 g8 (Rd.own 0 36 rfl) e6 n7 (fun i3 i6 => Ass.own 36 kS36 (some ⟨m4, 0, none⟩) 1 g8 :: Ass.box 96 c8 [.int .i64 b6.f0, .int .i64 b6.f1, .int .i32 b6.f2, .int .i64 b6.f3] :: Ass.box 105 a4 [.slice c1 b7.length c3, .slice c2 b8.length c4] :: Ass.own 3 (Kd.int .i64) c1 c3 b7 :: Ass.deep 94 96 kS96 c2 c4 b8 :: Ass.box 53 b9 [.int .i32 ((a1.getD a0.toNat zS53).f0.f0), .int .i64 ((a1.getD a0.toNat zS53).f0.f1), .int .i64 ((a1.getD a0.toNat zS53).f0.f2), .slice a2.1 ((a1.getD a0.toNat zS53).f0.f3).length a2.2, .int .i32 ((a1.getD a0.toNat zS53).f0.f4.f0), .int .i32 ((a1.getD a0.toNat zS53).f0.f4.f1), .int .i32 ((a1.getD a0.toNat zS53).f0.f4.f2), .int .i32 ((a1.getD a0.toNat zS53).f0.f4.f3), .int .i64 ((a1.getD a0.toNat zS53).f0.f5), .int .i64 ((a1.getD a0.toNat zS53).f0.f6), .int .u32 ((a1.getD a0.toNat zS53).f0.f7), .int .i64 ((a1.getD a0.toNat zS53).f0.f8), .int .i32 ((a1.getD a0.toNat zS53).f1)] :: Ass.box 49 a3 [.slice (some c5) a1.length c0] :: Ass.own 53 kS53 (some c5) c0 a1 :: Ass.own 36 kS36 i3 i6 e6 :: Ass.own 36 kS36 b0 b4 a6 :: Ass.own 53 kS53 b1 b5 a7 :: os) 60 (by kernel_rfl) (by kernel_rfl) (by kernel_rfl) (by kernel_rfl) n0 (fun _ _ => rfl) ?_)
        intro i3 i6 w hS
        refine EL.quick 1 [0, 1, 2, 9, 10, 11, 12] [(0, .pointer (some ⟨a3, 0, none⟩)), (1, .pointer (some ⟨a4, 0, none⟩)), (2, .int .i64 (IntKind.i64.wrap (a8 - 1))), (9, .slice i3 e6.length i6), (10, .slice b0 a6.length b4), (11, .slice b1 a7.length b5), (12, .int .i64 a0)] (by kernel_rfl) ?_
        refine EL.done (by kernel_rfl) ?_
        refine EQ.pop ?_
        refine EQ.to ?_
        refine EQ.keep [0, 1, 2, 9, 10, 11, 12] [(0, .pointer (some ⟨a3, 0, none⟩)), (1, .pointer (some ⟨a4, 0, none⟩)), (2, .int .i64 (IntKind.i64.wrap (a8 - 1))), (9, .slice i3 e6.length i6), (10, .slice b0 a6.length b4), (11, .slice b1 a7.length b5), (12, .int .i64 a0)] (by kernel_rfl) ?_
        exact fun a ha => ⟨e6, a6, a7, IntKind.i64.wrap (a8 - 1), b9, a2.1, a2.2, i3, i6, b0, b4, b1, b5, ha, (hS.re [10, 10, 10, 7, 7, 7, 10, 10, 10] [9, 9] rfl (sub_cons 0 rfl (sub_tail (sub_self)))), H⟩
       ·rw [if_neg j5] at H
        refine EW.region (id := 14) (ops := Cd20.r.r.r.r.l.r.l.l.r.l.l.r.r.r.r.r.r.ops) (by kernel_rfl) ?_
        refine EL.quick 1 [0, 1, 2, 9, 10, 12, 13, 61] [(0, .pointer (some ⟨a3, 0, none⟩)), (1, .pointer (some ⟨a4, 0, none⟩)), (2, .int .i64 (IntKind.i64.wrap (a8 - 1))), (9, .slice a9 a5.length b3), (10, .slice b0 a6.length b4), (12, .int .i64 a0), (13, .pointer (some ⟨b9, 0, none⟩)), (61, .slice b1 a7.length b5)] (by kernel_rfl) ?_
        refine EL.of (EO.Y (YO.loadBox hS 4 rfl 53 0 13 (.agg #[.int .i32 ((a1.getD a0.toNat zS53).f0.f0), .int .i64 ((a1.getD a0.toNat zS53).f0.f1), .int .i64 ((a1.getD a0.toNat zS53).f0.f2), .slice a2.1 ((a1.getD a0.toNat zS53).f0.f3).length a2.2, .int .i32 ((a1.getD a0.toNat zS53).f0.f4.f0), .int .i32 ((a1.getD a0.toNat zS53).f0.f4.f1), .int .i32 ((a1.getD a0.toNat zS53).f0.f4.f2), .int .i32 ((a1.getD a0.toNat zS53).f0.f4.f3), .int .i64 ((a1.getD a0.toNat zS53).f0.f5), .int .i64 ((a1.getD a0.toNat zS53).f0.f6), .int .u32 ((a1.getD a0.toNat zS53).f0.f7), .int .i64 ((a1.getD a0.toNat zS53).f0.f8), .int .i32 ((a1.getD a0.toNat zS53).f1)]) 62 (by kernel_rfl) (by kernel_rfl) (by kernel_rfl) (by kernel_rfl)) ?_)
        obtain ⟨g9, m8, H⟩ := lt_out H
        refine EL.of (EO.lit hS kS53 53 47 1 #[(0, .agg #[.int .i32 ((a1.getD a0.toNat zS53).f0.f0), .int .i64 ((a1.getD a0.toNat zS53).f0.f1), .int .i64 ((a1.getD a0.toNat zS53).f0.f2), .slice a2.1 ((a1.getD a0.toNat zS53).f0.f3).length a2.2, .int .i32 ((a1.getD a0.toNat zS53).f0.f4.f0), .int .i32 ((a1.getD a0.toNat zS53).f0.f4.f1), .int .i32 ((a1.getD a0.toNat zS53).f0.f4.f2), .int .i32 ((a1.getD a0.toNat zS53).f0.f4.f3), .int .i64 ((a1.getD a0.toNat zS53).f0.f5), .int .i64 ((a1.getD a0.toNat zS53).f0.f6), .int .u32 ((a1.getD a0.toNat zS53).f0.f7), .int .i64 ((a1.getD a0.toNat zS53).f0.f8), .int .i32 ((a1.getD a0.toNat zS53).f1)])] [.int .i32 ((a1.getD a0.toNat zS53).f0.f0), .int .i64 ((a1.getD a0.toNat zS53).f0.f1), .int .i64 ((a1.getD a0.toNat zS53).f0.f2), .slice a2.1 ((a1.getD a0.toNat zS53).f0.f3).length a2.2, .int .i32 ((a1.getD a0.toNat zS53).f0.f4.f0), .int .i32 ((a1.getD a0.toNat zS53).f0.f4.f1), .int .i32 ((a1.getD a0.toNat zS53).f0.f4.f2), .int .i32 ((a1.getD a0.toNat zS53).f0.f4.f3), .int .i64 ((a1.getD a0.toNat zS53).f0.f5), .int .i64 ((a1.getD a0.toNat zS53).f0.f6), .int .u32 ((a1.getD a0.toNat zS53).f0.f7), .int .i64 ((a1.getD a0.toNat zS53).f0.f8), .int .i32 ((a1.getD a0.toNat zS53).f1)] g9 63 (by kernel_rfl) (by kernel_rfl) (by kernel_rfl) (fun _ => (by kernel_rfl)) (by rw [m8]; rfl) (by kernel_rfl) (fun w G hr => (by rw [m8]; exact ⟨[.int .i32 ((a1.getD a0.toNat zS53).f0.f0), .int .i64 ((a1.getD a0.toNat zS53).f0.f1), .int .i64 ((a1.getD a0.toNat zS53).f0.f2), .slice a2.1 ((a1.getD a0.toNat zS53).f0.f3).length a2.2, .int .i32 ((a1.getD a0.toNat zS53).f0.f4.f0), .int .i32 ((a1.getD a0.toNat zS53).f0.f4.f1), .int .i32 ((a1.getD a0.toNat zS53).f0.f4.f2), .int .i32 ((a1.getD a0.toNat zS53).f0.f4.f3), .int .i64 ((a1.getD a0.toNat zS53).f0.f5), .int .i64 ((a1.getD a0.toNat zS53).f0.f6), .int .u32 ((a1.getD a0.toNat zS53).f0.f7), .int .i64 ((a1.getD a0.toNat zS53).f0.f8), .int .i32 ((a1.getD a0.toNat zS53).f1)], [], rfl, ⟨[.int .i32 ((a1.getD a0.toNat zS53).f0.f0), .int .i64 ((a1.getD a0.toNat zS53).f0.f1), .int .i64 ((a1.getD a0.toNat zS53).f0.f2), .slice a2.1 ((a1.getD a0.toNat zS53).f0.f3).length a2.2, .int .i32 ((a1.getD a0.toNat zS53).f0.f4.f0), .int .i32 ((a1.getD a0.toNat zS53).f0.f4.f1), .int .i32 ((a1.getD a0.toNat zS53).f0.f4.f2), .int .i32 ((a1.getD a0.toNat zS53).f0.f4.f3), .int .i64 ((a1.getD a0.toNat zS53).f0.f5), .int .i64 ((a1.getD a0.toNat zS53).f0.f6), .int .u32 ((a1.getD a0.toNat zS53).f0.f7), .int .i64 ((a1.getD a0.toNat zS53).f0.f8)], [.int .i32 ((a1.getD a0.toNat zS53).f1)], rfl, ⟨[.int .i32 ((a1.getD a0.toNat zS53).f0.f0)], [.int .i64 ((a1.getD a0.toNat zS53).f0.f1), .int .i64 ((a1.getD a0.toNat zS53).f0.f2), .slice a2.1 ((a1.getD a0.toNat zS53).f0.f3).length a2.2, .int .i32 ((a1.getD a0.toNat zS53).f0.f4.f0), .int .i32 ((a1.getD a0.toNat zS53).f0.f4.f1), .int .i32 ((a1.getD a0.toNat zS53).f0.f4.f2), .int .i32 ((a1.getD a0.toNat zS53).f0.f4.f3), .int .i64 ((a1.getD a0.toNat zS53).f0.f5), .int .i64 ((a1.getD a0.toNat zS53).f0.f6), .int .u32 ((a1.getD a0.toNat zS53).f0.f7), .int .i64 ((a1.getD a0.toNat zS53).f0.f8)], rfl, rfl, ⟨[.int .i64 ((a1.getD a0.toNat zS53).f0.f1)], [.int .i64 ((a1.getD a0.toNat zS53).f0.f2), .slice a2.1 ((a1.getD a0.toNat zS53).f0.f3).length a2.2, .int .i32 ((a1.getD a0.toNat zS53).f0.f4.f0), .int .i32 ((a1.getD a0.toNat zS53).f0.f4.f1), .int .i32 ((a1.getD a0.toNat zS53).f0.f4.f2), .int .i32 ((a1.getD a0.toNat zS53).f0.f4.f3), .int .i64 ((a1.getD a0.toNat zS53).f0.f5), .int .i64 ((a1.getD a0.toNat zS53).f0.f6), .int .u32 ((a1.getD a0.toNat zS53).f0.f7), .int .i64 ((a1.getD a0.toNat zS53).f0.f8)], rfl, rfl, ⟨[.int .i64 ((a1.getD a0.toNat zS53).f0.f2)], [.slice a2.1 ((a1.getD a0.toNat zS53).f0.f3).length a2.2, .int .i32 ((a1.getD a0.toNat zS53).f0.f4.f0), .int .i32 ((a1.getD a0.toNat zS53).f0.f4.f1), .int .i32 ((a1.getD a0.toNat zS53).f0.f4.f2), .int .i32 ((a1.getD a0.toNat zS53).f0.f4.f3), .int .i64 ((a1.getD a0.toNat zS53).f0.f5), .int .i64 ((a1.getD a0.toNat zS53).f0.f6), .int .u32 ((a1.getD a0.toNat zS53).f0.f7), .int .i64 ((a1.getD a0.toNat zS53).f0.f8)], rfl, rfl, ⟨[.slice a2.1 ((a1.getD a0.toNat zS53).f0.f3).length a2.2], [.int .i32 ((a1.getD a0.toNat zS53).f0.f4.f0), .int .i32 ((a1.getD a0.toNat zS53).f0.f4.f1), .int .i32 ((a1.getD a0.toNat zS53).f0.f4.f2), .int .i32 ((a1.getD a0.toNat zS53).f0.f4.f3), .int .i64 ((a1.getD a0.toNat zS53).f0.f5), .int .i64 ((a1.getD a0.toNat zS53).f0.f6), .int .u32 ((a1.getD a0.toNat zS53).f0.f7), .int .i64 ((a1.getD a0.toNat zS53).f0.f8)], rfl, (hr _ (List.mem_of_getElem? (i := 0) rfl)), ⟨[.int .i32 ((a1.getD a0.toNat zS53).f0.f4.f0), .int .i32 ((a1.getD a0.toNat zS53).f0.f4.f1), .int .i32 ((a1.getD a0.toNat zS53).f0.f4.f2), .int .i32 ((a1.getD a0.toNat zS53).f0.f4.f3)], [.int .i64 ((a1.getD a0.toNat zS53).f0.f5), .int .i64 ((a1.getD a0.toNat zS53).f0.f6), .int .u32 ((a1.getD a0.toNat zS53).f0.f7), .int .i64 ((a1.getD a0.toNat zS53).f0.f8)], rfl, ⟨[.int .i32 ((a1.getD a0.toNat zS53).f0.f4.f0)], [.int .i32 ((a1.getD a0.toNat zS53).f0.f4.f1), .int .i32 ((a1.getD a0.toNat zS53).f0.f4.f2), .int .i32 ((a1.getD a0.toNat zS53).f0.f4.f3)], rfl, rfl, ⟨[.int .i32 ((a1.getD a0.toNat zS53).f0.f4.f1)], [.int .i32 ((a1.getD a0.toNat zS53).f0.f4.f2), .int .i32 ((a1.getD a0.toNat zS53).f0.f4.f3)], rfl, rfl, ⟨[.int .i32 ((a1.getD a0.toNat zS53).f0.f4.f2)], [.int .i32 ((a1.getD a0.toNat zS53).f0.f4.f3)], rfl, rfl, ⟨[.int .i32 ((a1.getD a0.toNat zS53).f0.f4.f3)], [], rfl, rfl, rfl⟩⟩⟩⟩, ⟨[.int .i64 ((a1.getD a0.toNat zS53).f0.f5)], [.int .i64 ((a1.getD a0.toNat zS53).f0.f6), .int .u32 ((a1.getD a0.toNat zS53).f0.f7), .int .i64 ((a1.getD a0.toNat zS53).f0.f8)], rfl, rfl, ⟨[.int .i64 ((a1.getD a0.toNat zS53).f0.f6)], [.int .u32 ((a1.getD a0.toNat zS53).f0.f7), .int .i64 ((a1.getD a0.toNat zS53).f0.f8)], rfl, rfl, ⟨[.int .u32 ((a1.getD a0.toNat zS53).f0.f7)], [.int .i64 ((a1.getD a0.toNat zS53).f0.f8)], rfl, rfl, ⟨[.int .i64 ((a1.getD a0.toNat zS53).f0.f8)], [], rfl, rfl, rfl⟩⟩⟩⟩⟩⟩⟩⟩⟩, ⟨[.int .i32 ((a1.getD a0.toNat zS53).f1)], [], rfl, rfl, rfl⟩⟩, rfl⟩)) ?_)
        intro m5 w hS
        obtain ⟨n1, H⟩ := ite_in H
        obtain ⟨e7, n8, H⟩ := lt_out H
        refine EL.of (EO.append hS 47 47 53 104 10 kS53 b1 b5 a7 rfl (some ⟨m5, 0, none⟩) 1 g9 (Rd.own 0 53 rfl) e7 n8 (fun i4 i7 => Ass.own 53 kS53 (some ⟨m5, 0, none⟩) 1 g9 :: Ass.box 96 c8 [.int .i64 b6.f0, .int .i64 b6.f1, .int .i32 b6.f2, .int .i64 b6.f3] :: Ass.box 105 a4 [.slice c1 b7.length c3, .slice c2 b8.length c4] :: Ass.own 3 (Kd.int .i64) c1 c3 b7 :: Ass.deep 94 96 kS96 c2 c4 b8 :: Ass.box 53 b9 [.int .i32 ((a1.getD a0.toNat zS53).f0.f0), .int .i64 ((a1.getD a0.toNat zS53).f0.f1), .int .i64 ((a1.getD a0.toNat zS53).f0.f2), .slice a2.1 ((a1.getD a0.toNat zS53).f0.f3).length a2.2, .int .i32 ((a1.getD a0.toNat zS53).f0.f4.f0), .int .i32 ((a1.getD a0.toNat zS53).f0.f4.f1), .int .i32 ((a1.getD a0.toNat zS53).f0.f4.f2), .int .i32 ((a1.getD a0.toNat zS53).f0.f4.f3), .int .i64 ((a1.getD a0.toNat zS53).f0.f5), .int .i64 ((a1.getD a0.toNat zS53).f0.f6), .int .u32 ((a1.getD a0.toNat zS53).f0.f7), .int .i64 ((a1.getD a0.toNat zS53).f0.f8), .int .i32 ((a1.getD a0.toNat zS53).f1)] :: Ass.box 49 a3 [.slice (some c5) a1.length c0] :: Ass.own 53 kS53 (some c5) c0 a1 :: Ass.own 36 kS36 a9 b3 a5 :: Ass.own 36 kS36 b0 b4 a6 :: Ass.own 53 kS53 i4 i7 e7 :: os) 64 (by kernel_rfl) (by kernel_rfl) (by kernel_rfl) (by kernel_rfl) n1 (fun _ _ => rfl) ?_)
        intro i4 i7 w hS
        refine EL.quick 1 [0, 1, 2, 9, 10, 11, 12] [(0, .pointer (some ⟨a3, 0, none⟩)), (1, .pointer (some ⟨a4, 0, none⟩)), (2, .int .i64 (IntKind.i64.wrap (a8 - 1))), (9, .slice a9 a5.length b3), (10, .slice b0 a6.length b4), (11, .slice i4 e7.length i7), (12, .int .i64 a0)] (by kernel_rfl) ?_
        refine EL.done (by kernel_rfl) ?_
        refine EQ.pop ?_
        refine EQ.to ?_
        refine EQ.keep [0, 1, 2, 9, 10, 11, 12] [(0, .pointer (some ⟨a3, 0, none⟩)), (1, .pointer (some ⟨a4, 0, none⟩)), (2, .int .i64 (IntKind.i64.wrap (a8 - 1))), (9, .slice a9 a5.length b3), (10, .slice b0 a6.length b4), (11, .slice i4 e7.length i7), (12, .int .i64 a0)] (by kernel_rfl) ?_
        exact fun a ha => ⟨a5, a6, e7, IntKind.i64.wrap (a8 - 1), b9, a2.1, a2.2, a9, b3, b0, b4, i4, i7, ha, (hS.re [10, 10, 10, 7, 7, 7, 10, 10, 10] [9, 9] rfl (sub_cons 0 rfl (sub_tail (sub_self)))), H⟩
    ·obtain ⟨d4, d5, d6, e3, m2, j1, j2, g0, g3, g1, g4, g2, g5, ha, hS, H⟩ := hI
     rw [n4] at H
     (try dsimp only at H)
     refine EW.at ?_ a ha
     clear ha a
     refine EW.region (id := 6) (ops := Cd20.r.r.r.r.l.r.l.l.r.r.ops) (by kernel_rfl) ?_
     refine EL.quick 3 [0, 1, 2, 9, 10, 11, 12] [(0, .pointer (some ⟨a3, 0, none⟩)), (1, .pointer (some ⟨a4, 0, none⟩)), (2, .int .i64 e3), (9, .slice g0 d4.length g3), (10, .slice g1 d5.length g4), (11, .slice g2 d6.length g5), (12, .int .i64 (IntKind.i64.wrap (a0 + 1)))] (by kernel_rfl) ?_
     refine EL.done (by kernel_rfl) ?_
     refine EQ.to ?_
     refine EQ.keep [0, 1, 2, 9, 10, 11, 12] [(0, .pointer (some ⟨a3, 0, none⟩)), (1, .pointer (some ⟨a4, 0, none⟩)), (2, .int .i64 e3), (9, .slice g0 d4.length g3), (10, .slice g1 d5.length g4), (11, .slice g2 d6.length g5), (12, .int .i64 (IntKind.i64.wrap (a0 + 1)))] (by kernel_rfl) ?_
     exact fun a ha => ⟨n, Nat.lt_succ_self n, e3, d4, d5, d6, IntKind.i64.wrap (a0 + 1), g0, g3, g1, g4, g2, g5, ha, (hS.re [8, 8, 8, 8, 8, 8, 8, 8] [8] rfl (sub_tail (sub_self))), H⟩
   ·rw [if_neg g6] at H
    refine EW.exit (id := 0) (by kernel_rfl) ?_
    refine EQ.exitCode ?_
    refine EQ.exitTo ?_
    refine EQ.exitHere ?_
    refine EQ.to ?_
    refine EQ.keep [0, 2, 9, 10, 11] [(0, .pointer (some ⟨a3, 0, none⟩)), (2, .int .i64 a8), (9, .slice a9 a5.length b3), (10, .slice b0 a6.length b4), (11, .slice b1 a7.length b5)] (by kernel_rfl) ?_
    exact fun a ha => ⟨a8, a5, a6, a7, a9, b3, b0, b4, b1, b5, ha, (hS.re [7, 7, 7, 7, 7, 7, 7, 7] [] rfl (sub_self)), H⟩
 ·obtain ⟨e2, d0, d1, c9, d7, d9, d8, e0, d2, d3, ha, hS, H⟩ := hI
  rw [n3] at H
  (try dsimp only at H)
  refine EW.at ?_ a ha
  clear ha a
  refine EW.seq (x := Cd20.r.r.r.r.r.l) (y := Cd20.r.r.r.r.r.r) (by kernel_rfl) ?_
  refine EW.region (id := 15) (ops := Cd20.r.r.r.r.r.l.ops) (by kernel_rfl) ?_
  refine EL.quick 4 [2, 9, 10, 66, 68] [(2, .int .i64 e2), (9, .slice d7 d0.length d9), (10, .slice d8 d1.length e0), (66, .slice d2 c9.length d3), (68, .pointer (some ⟨a3, 0, none⟩))] (by kernel_rfl) ?_
  refine EL.of (EO.storeBox (os' := Ass.box 49 a3 [.slice d2 c9.length d3] :: Ass.own 53 kS53 c6 c0 a1 :: Ass.box 105 a4 [.slice c1 b7.length c3, .slice c2 b8.length c4] :: Ass.own 3 (Kd.int .i64) c1 c3 b7 :: Ass.deep 94 96 kS96 c2 c4 b8 :: Ass.own 36 kS36 d7 d9 d0 :: Ass.own 36 kS36 d8 e0 d1 :: Ass.own 53 kS53 d2 d3 c9 :: os) hS 0 rfl 47 0 (.slice d2 c9.length d3) [.slice d2 c9.length d3] (by kernel_rfl) (by kernel_rfl) (by kernel_rfl) (by kernel_rfl) (by kernel_rfl) (by kernel_rfl) rfl rfl ?_)
  intro w hS
  refine EL.done (by kernel_rfl) ?_
  refine EQ.code ?_
  refine EW.seq (x := Cd20.r.r.r.r.r.r.l) (y := Cd20.r.r.r.r.r.r.r) (by kernel_rfl) ?_
  refine EW.region (id := 16) (ops := Cd20.r.r.r.r.r.r.l.ops) (by kernel_rfl) ?_
  refine EL.quick 6 [6, 7, 8] [(6, .slice d7 d0.length d9), (7, .slice d8 d1.length e0), (8, .int .i64 e2)] (by kernel_rfl) ?_
  refine EL.done (by kernel_rfl) ?_
  refine EQ.code ?_
  refine EW.ret (by kernel_rfl) ?_
  simp only [Option.some.injEq, Prod.mk.injEq] at H
  obtain ⟨rfl, rfl, rfl, rfl⟩ := H
  exact EQ.leave (.tuple #[.slice d7 d0.length d9, .slice d8 d1.length e0, .int .i64 e2]) (by kernel_rfl) ⟨_, rfl, d2, d3, d7, d9, d8, e0, rfl, (hS.re [6, 6, 7, 7, 7, 7, 7, 7] [] rfl (sub_self))⟩

end Go.Proofs.Ytipaaapbapijhaa.G
