import Derived.Test.YtipaaapbapijhaaProg
import Derived.Test.YtipaaapbapijhaaFwEq
import Derived.Test.YtipaaapbapijhaaFwOpen
import Derived.Test.YtipaaapbapijhaaG0
import Derived.Test.YtipaaapbapijhaaG1
import Derived.Test.YtipaaapbapijhaaG2
namespace Go.Proofs.Ytipaaapbapijhaa.G
open Go Go.Fw Go.RowKit Go.Proofs
set_option linter.unusedVariables false
set_option linter.unusedSimpArgs false

/-! ### (*confidant/park.Park).Add: function 15 -/
def park_Park_Add.f (K : Nat) (b9 : List S60) (a4 : Int) (a5 : Int) (a6 : Int) (a1 : List Int) (a7 : Int) (a8 : Int) (a9 : Int) (b0 : Int) (b2 : Int) (b3 : Int) (b4 : Int) (b5 : Int) (c5 : Int) : Option (List S60) := b1 (park_copied.f K a4 a5 a6 a1 a7 a8 a9 b0 b2 b3 b4 b5 c5) fun (a0 : S60) => (lt ([(⟨(⟨a0.f0.f0, a0.f0.f1, a0.f0.f2, a0.f0.f3, (⟨a0.f0.f4.f0, a0.f0.f4.f1, a0.f0.f4.f2, a0.f0.f4.f3⟩ : S33), a0.f0.f5, a0.f0.f6, a0.f0.f7, a0.f0.f8⟩ : S36), a0.f1⟩ : S60)] : List S60) fun c2 => (if (b9.length + c2.length) * 104 ≤ 140737488355328 then (lt (b9 ++ c2) fun b7 => (some b7)) else none))
set_option maxRecDepth 100000 in
theorem park_Park_Add.calls {K : Nat} {b9 : List S60} {a4 : Int} {a5 : Int} {a6 : Int} {a1 : List Int} {a7 : Int} {a8 : Int} {a9 : Int} {b0 : Int} {b2 : Int} {b3 : Int} {b4 : Int} {b5 : Int} {c5 : Int} {b8 : Nat} {c3 : Option Addr} {c4 : Nat} {a2 : Option Addr} {a3 : Nat} {e2 : List S60} {B w : World} {os : List Ass} {rs : List Ro} (H : park_Park_Add.f K b9 a4 a5 a6 a1 a7 a8 a9 b0 b2 b3 b4 b5 c5 = some e2) (hS : St B w (Ass.box 93 b8 [.slice c3 b9.length c4] :: Ass.own 60 kS60 c3 c4 b9 :: os) (Ro.sl (Kd.int .i32) a2 a3 a1 :: rs)) :
  Calls Try.prog 15 [.pointer (some ⟨b8, 0, none⟩), .agg #[.int .i32 a4, .int .i64 a5, .int .i64 a6, .slice a2 a1.length a3, .int .i32 a7, .int .i32 a8, .int .i32 a9, .int .i32 b0, .int .i64 b2, .int .i64 b3, .int .u32 b4, .int .i64 b5], .int .i32 c5].toArray w (fun en w' => ∃ v, en = .returned v ∧ ∃ e3 : Option Addr, ∃ e5 : Nat, v = .tuple #[] ∧ St B w' (Ass.box 93 b8 [.slice e3 e2.length e5] :: Ass.own 60 kS60 e3 e5 e2 :: os) (Ro.sl (Kd.int .i32) a2 a3 a1 :: rs)) := by
 unfold park_Park_Add.f at H
 refine calls_of_EW (args := [.pointer (some ⟨b8, 0, none⟩), .agg #[.int .i32 a4, .int .i64 a5, .int .i64 a6, .slice a2 a1.length a3, .int .i32 a7, .int .i32 a8, .int .i32 a9, .int .i32 b0, .int .i64 b2, .int .i64 b3, .int .u32 b4, .int .i64 b5], .int .i32 c5]) (c := Cd15) 19 Try.func15 (by kernel_rfl) (by kernel_rfl) (by kernel_rfl) ?_
 refine EW.seq (x := Cd15.l) (y := Cd15.r) (by kernel_rfl) ?_
 refine EW.region (id := 0) (ops := Cd15.l.ops) (by kernel_rfl) ?_
 refine EL.of (EO.box hS 36 (.agg #[.int .i32 a4, .int .i64 a5, .int .i64 a6, .slice a2 a1.length a3, .int .i32 a7, .int .i32 a8, .int .i32 a9, .int .i32 b0, .int .i64 b2, .int .i64 b3, .int .u32 b4, .int .i64 b5]) [.int .i32 a4, .int .i64 a5, .int .i64 a6, .slice a2 a1.length a3, .int .i32 a7, .int .i32 a8, .int .i32 a9, .int .i32 b0, .int .i64 b2, .int .i64 b3, .int .u32 b4, .int .i64 b5] 4 (by kernel_rfl) (by kernel_rfl) (by kernel_rfl) (by first | rfl | kernel_rfl) ?_)
 intro b6 w hS
 refine EL.done (by kernel_rfl) ?_
 refine EQ.code ?_
 obtain ⟨a0, e7, H⟩ := b1_out H
 obtain ⟨c2, d4, H⟩ := lt_out H
 obtain ⟨e0, H⟩ := ite_in H
 obtain ⟨b7, e1, H⟩ := lt_out H
 refine EW.meet (id := 1) (ops := Cd15.r.ops) (fun a w => ∃ e4 : Option Addr, ∃ e6 : Nat, ∃ d5 : Option Addr, ∃ d6 : Nat, Sat 19 [] a ∧ St B w (Ass.own 60 kS60 e4 e6 c2 :: Ass.box 36 b6 [.int .i32 a4, .int .i64 a5, .int .i64 a6, .slice a2 a1.length a3, .int .i32 a7, .int .i32 a8, .int .i32 a9, .int .i32 b0, .int .i64 b2, .int .i64 b3, .int .u32 b4, .int .i64 b5] :: Ass.box 93 b8 [.slice d5 b7.length d6] :: Ass.own 60 kS60 d5 d6 b7 :: os) (Ro.sl (Kd.int .i32) a2 a3 a1 :: Ro.sl (Kd.int .i32) a2 a3 a1 :: rs)) (by kernel_rfl) ?_ (fun a w hI => ?_)
 ·have hS := hS.drew
  refine EW.draw (B := B) (id := 1) (ops := Cd15.r.ops) [Ass.box 36 b6 [.int .i32 a4, .int .i64 a5, .int .i64 a6, .slice a2 a1.length a3, .int .i32 a7, .int .i32 a8, .int .i32 a9, .int .i32 b0, .int .i64 b2, .int .i64 b3, .int .u32 b4, .int .i64 b5]] [Ro.sl (Kd.int .i32) a2 a3 a1] (by kernel_rfl) (by kernel_rfl) ?_
  have hN : Region.noSelect Cd15.r.ops = true := (by kernel_rfl)
  have hF : freeAll Cd15.r.ops = true := (by kernel_rfl)
  have hC : Core B [Ass.box 36 b6 [.int .i32 a4, .int .i64 a5, .int .i64 a6, .slice a2 a1.length a3, .int .i32 a7, .int .i32 a8, .int .i32 a9, .int .i32 b0, .int .i64 b2, .int .i64 b3, .int .u32 b4, .int .i64 b5]] [Ro.sl (Kd.int .i32) a2 a3 a1] _ := ⟨_, _, hS⟩
  refine ED.quick hN hF hC [0, 1, 2, 3, 6] [4, 6, 9, 12] 9 [(4, .pointer (some ⟨b6, 0, none⟩)), (6, .pointer (some ⟨b8, 0, none⟩)), (9, .pointer (some ⟨b8, 0, none⟩)), (12, .int .i32 c5)] #[true, true, true, true, false, false, true, false, false, false, false, false, false, false] (by kernel_rfl) (by kernel_rfl) ?_
  refine ED.Y hN hF hC 5 8 #[true, true, true, true, false, true, true, false, false, false, false, false, false, false] (by kernel_rfl) (by kernel_rfl) rfl (fun _ _ _ hS => YO.loadBox hS 0 rfl 36 0 12 (.agg #[.int .i32 a4, .int .i64 a5, .int .i64 a6, .slice a2 a1.length a3, .int .i32 a7, .int .i32 a8, .int .i32 a9, .int .i32 b0, .int .i64 b2, .int .i64 b3, .int .u32 b4, .int .i64 b5]) 11 (by kernel_rfl) (by kernel_rfl) (by kernel_rfl) (by kernel_rfl)) ?_
  refine ED.quick hN hF hC [7] [6, 9, 13] 7 [(6, .pointer (some ⟨b8, 0, none⟩)), (9, .pointer (some ⟨b8, 0, none⟩)), (13, .agg #[.int .i32 a4, .int .i64 a5, .int .i64 a6, .slice a2 a1.length a3, .int .i32 a7, .int .i32 a8, .int .i32 a9, .int .i32 b0, .int .i64 b2, .int .i64 b3, .int .u32 b4, .int .i64 b5, .int .i32 c5])] #[true, true, true, true, false, true, true, true, false, false, false, false, false, false] (by kernel_rfl) (by kernel_rfl) ?_
  refine ED.two 4 8 6 (by kernel_rfl) (by kernel_rfl) ?_ ?_
  ·refine EO.Y (YO.loadBox hS 1 rfl 58 0 1 (.slice c3 b9.length c4) 10 (by kernel_rfl) (by kernel_rfl) (by kernel_rfl) (by kernel_rfl)) ?_
   have hC : Core B [Ass.box 36 b6 [.int .i32 a4, .int .i64 a5, .int .i64 a6, .slice a2 a1.length a3, .int .i32 a7, .int .i32 a8, .int .i32 a9, .int .i32 b0, .int .i64 b2, .int .i64 b3, .int .u32 b4, .int .i64 b5]] [Ro.sl (Kd.int .i32) a2 a3 a1] _ := ⟨_, _, hS⟩
   refine ⟨hC, ?_⟩
   refine ED.at' #[true, true, true, true, true, true, true, true, false, false, false, false, false, false] (by kernel_rfl) ?_
   have hS : St B _ (Ass.box 36 b6 [.int .i32 a4, .int .i64 a5, .int .i64 a6, .slice a2 a1.length a3, .int .i32 a7, .int .i32 a8, .int .i32 a9, .int .i32 b0, .int .i64 b2, .int .i64 b3, .int .u32 b4, .int .i64 b5] :: Ass.box 93 b8 [.slice c3 b9.length c4] :: Ass.own 60 kS60 c3 c4 b9 :: os) (Ro.sl (Kd.int .i32) a2 a3 a1 :: Ro.sl (Kd.int .i32) a2 a3 a1 :: rs) := hS.re [] [] rfl (sub_cons 0 rfl sub_self)
   refine ED.one 8 5 #[true, true, true, true, true, true, true, true, true, false, false, false, false, false] (by kernel_rfl) (by kernel_rfl) (by kernel_rfl) (EO.callD 44 [.agg #[.int .i32 a4, .int .i64 a5, .int .i64 a6, .slice a2 a1.length a3, .int .i32 a7, .int .i32 a8, .int .i32 a9, .int .i32 b0, .int .i64 b2, .int .i64 b3, .int .u32 b4, .int .i64 b5, .int .i32 c5]] _ 14 (by kernel_rfl) (by kernel_rfl) (by kernel_rfl) (park_copied.calls e7 hS) ?_)
   rintro v w ⟨c6, d0, rfl, hS⟩
   have hC : Core B [Ass.box 36 b6 [.int .i32 a4, .int .i64 a5, .int .i64 a6, .slice a2 a1.length a3, .int .i32 a7, .int .i32 a8, .int .i32 a9, .int .i32 b0, .int .i64 b2, .int .i64 b3, .int .u32 b4, .int .i64 b5]] [Ro.sl (Kd.int .i32) a2 a3 a1] _ := ⟨_, _, hS.re [0] [] rfl (sub_cons 1 rfl sub_self)⟩
   refine ⟨hC, ?_⟩
   refine ED.one 9 4 #[true, true, true, true, true, true, true, true, true, true, false, false, false, false] (by kernel_rfl) (by kernel_rfl) (by kernel_rfl) (EO.lit hS kS60 60 58 1 #[(0, .agg #[.int .i32 a0.f0.f0, .int .i64 a0.f0.f1, .int .i64 a0.f0.f2, .slice c6 a0.f0.f3.length d0, .int .i32 a0.f0.f4.f0, .int .i32 a0.f0.f4.f1, .int .i32 a0.f0.f4.f2, .int .i32 a0.f0.f4.f3, .int .i64 a0.f0.f5, .int .i64 a0.f0.f6, .int .u32 a0.f0.f7, .int .i64 a0.f0.f8, .int .i32 a0.f1])] [.int .i32 a0.f0.f0, .int .i64 a0.f0.f1, .int .i64 a0.f0.f2, .slice c6 a0.f0.f3.length d0, .int .i32 a0.f0.f4.f0, .int .i32 a0.f0.f4.f1, .int .i32 a0.f0.f4.f2, .int .i32 a0.f0.f4.f3, .int .i64 a0.f0.f5, .int .i64 a0.f0.f6, .int .u32 a0.f0.f7, .int .i64 a0.f0.f8, .int .i32 a0.f1] c2 15 (by kernel_rfl) (by kernel_rfl) (by kernel_rfl) (fun _ => (by kernel_rfl)) (by rw [d4]; rfl) (by kernel_rfl) (fun w G hr => (by rw [d4]; exact ⟨[.int .i32 a0.f0.f0, .int .i64 a0.f0.f1, .int .i64 a0.f0.f2, .slice c6 a0.f0.f3.length d0, .int .i32 a0.f0.f4.f0, .int .i32 a0.f0.f4.f1, .int .i32 a0.f0.f4.f2, .int .i32 a0.f0.f4.f3, .int .i64 a0.f0.f5, .int .i64 a0.f0.f6, .int .u32 a0.f0.f7, .int .i64 a0.f0.f8, .int .i32 a0.f1], [], rfl, ⟨[.int .i32 a0.f0.f0, .int .i64 a0.f0.f1, .int .i64 a0.f0.f2, .slice c6 a0.f0.f3.length d0, .int .i32 a0.f0.f4.f0, .int .i32 a0.f0.f4.f1, .int .i32 a0.f0.f4.f2, .int .i32 a0.f0.f4.f3, .int .i64 a0.f0.f5, .int .i64 a0.f0.f6, .int .u32 a0.f0.f7, .int .i64 a0.f0.f8], [.int .i32 a0.f1], rfl, ⟨[.int .i32 a0.f0.f0], [.int .i64 a0.f0.f1, .int .i64 a0.f0.f2, .slice c6 a0.f0.f3.length d0, .int .i32 a0.f0.f4.f0, .int .i32 a0.f0.f4.f1, .int .i32 a0.f0.f4.f2, .int .i32 a0.f0.f4.f3, .int .i64 a0.f0.f5, .int .i64 a0.f0.f6, .int .u32 a0.f0.f7, .int .i64 a0.f0.f8], rfl, rfl, ⟨[.int .i64 a0.f0.f1], [.int .i64 a0.f0.f2, .slice c6 a0.f0.f3.length d0, .int .i32 a0.f0.f4.f0, .int .i32 a0.f0.f4.f1, .int .i32 a0.f0.f4.f2, .int .i32 a0.f0.f4.f3, .int .i64 a0.f0.f5, .int .i64 a0.f0.f6, .int .u32 a0.f0.f7, .int .i64 a0.f0.f8], rfl, rfl, ⟨[.int .i64 a0.f0.f2], [.slice c6 a0.f0.f3.length d0, .int .i32 a0.f0.f4.f0, .int .i32 a0.f0.f4.f1, .int .i32 a0.f0.f4.f2, .int .i32 a0.f0.f4.f3, .int .i64 a0.f0.f5, .int .i64 a0.f0.f6, .int .u32 a0.f0.f7, .int .i64 a0.f0.f8], rfl, rfl, ⟨[.slice c6 a0.f0.f3.length d0], [.int .i32 a0.f0.f4.f0, .int .i32 a0.f0.f4.f1, .int .i32 a0.f0.f4.f2, .int .i32 a0.f0.f4.f3, .int .i64 a0.f0.f5, .int .i64 a0.f0.f6, .int .u32 a0.f0.f7, .int .i64 a0.f0.f8], rfl, (hr _ (List.mem_of_getElem? (i := 0) rfl)), ⟨[.int .i32 a0.f0.f4.f0, .int .i32 a0.f0.f4.f1, .int .i32 a0.f0.f4.f2, .int .i32 a0.f0.f4.f3], [.int .i64 a0.f0.f5, .int .i64 a0.f0.f6, .int .u32 a0.f0.f7, .int .i64 a0.f0.f8], rfl, ⟨[.int .i32 a0.f0.f4.f0], [.int .i32 a0.f0.f4.f1, .int .i32 a0.f0.f4.f2, .int .i32 a0.f0.f4.f3], rfl, rfl, ⟨[.int .i32 a0.f0.f4.f1], [.int .i32 a0.f0.f4.f2, .int .i32 a0.f0.f4.f3], rfl, rfl, ⟨[.int .i32 a0.f0.f4.f2], [.int .i32 a0.f0.f4.f3], rfl, rfl, ⟨[.int .i32 a0.f0.f4.f3], [], rfl, rfl, rfl⟩⟩⟩⟩, ⟨[.int .i64 a0.f0.f5], [.int .i64 a0.f0.f6, .int .u32 a0.f0.f7, .int .i64 a0.f0.f8], rfl, rfl, ⟨[.int .i64 a0.f0.f6], [.int .u32 a0.f0.f7, .int .i64 a0.f0.f8], rfl, rfl, ⟨[.int .u32 a0.f0.f7], [.int .i64 a0.f0.f8], rfl, rfl, ⟨[.int .i64 a0.f0.f8], [], rfl, rfl, rfl⟩⟩⟩⟩⟩⟩⟩⟩⟩, ⟨[.int .i32 a0.f1], [], rfl, rfl, rfl⟩⟩, rfl⟩)) ?_)
   intro d7 w hS
   have hC : Core B [Ass.box 36 b6 [.int .i32 a4, .int .i64 a5, .int .i64 a6, .slice a2 a1.length a3, .int .i32 a7, .int .i32 a8, .int .i32 a9, .int .i32 b0, .int .i64 b2, .int .i64 b3, .int .u32 b4, .int .i64 b5]] [Ro.sl (Kd.int .i32) a2 a3 a1] _ := ⟨_, _, hS.re [1] [] rfl (sub_cons 1 rfl sub_self)⟩
   refine ⟨hC, ?_⟩
   refine ED.one 10 3 #[true, true, true, true, true, true, true, true, true, true, true, false, false, false] (by kernel_rfl) (by kernel_rfl) (by kernel_rfl) (EO.append hS 58 58 60 104 3 kS60 c3 c4 b9 rfl (some ⟨d7, 0, none⟩) 1 c2 (Rd.own 0 60 rfl) b7 e1 (fun c7 d1 => Ass.own 60 kS60 (some ⟨d7, 0, none⟩) 1 c2 :: Ass.box 36 b6 [.int .i32 a4, .int .i64 a5, .int .i64 a6, .slice a2 a1.length a3, .int .i32 a7, .int .i32 a8, .int .i32 a9, .int .i32 b0, .int .i64 b2, .int .i64 b3, .int .u32 b4, .int .i64 b5] :: Ass.box 93 b8 [.slice c3 b9.length c4] :: Ass.own 60 kS60 c7 d1 b7 :: os) 16 (by kernel_rfl) (by kernel_rfl) (by kernel_rfl) (by kernel_rfl) e0 (fun _ _ => rfl) ?_)
   intro c7 d1 w hS
   have hC : Core B [Ass.box 36 b6 [.int .i32 a4, .int .i64 a5, .int .i64 a6, .slice a2 a1.length a3, .int .i32 a7, .int .i32 a8, .int .i32 a9, .int .i32 b0, .int .i64 b2, .int .i64 b3, .int .u32 b4, .int .i64 b5]] [Ro.sl (Kd.int .i32) a2 a3 a1] _ := ⟨_, _, hS.re [1] [] rfl (sub_cons 1 rfl sub_self)⟩
   refine ⟨hC, ?_⟩
   refine ED.quick hN hF hC [11, 12] [16, 18] 1 [(16, .slice c7 b7.length d1), (18, .pointer (some ⟨b8, 0, none⟩))] #[true, true, true, true, true, true, true, true, true, true, true, true, true, false] (by kernel_rfl) (by kernel_rfl) ?_
   refine ED.one 13 0 #[true, true, true, true, true, true, true, true, true, true, true, true, true, true] (by kernel_rfl) (by kernel_rfl) (by kernel_rfl) (EO.storeBox (os' := Ass.own 60 kS60 (some ⟨d7, 0, none⟩) 1 c2 :: Ass.box 36 b6 [.int .i32 a4, .int .i64 a5, .int .i64 a6, .slice a2 a1.length a3, .int .i32 a7, .int .i32 a8, .int .i32 a9, .int .i32 b0, .int .i64 b2, .int .i64 b3, .int .u32 b4, .int .i64 b5] :: Ass.box 93 b8 [.slice c7 b7.length d1] :: Ass.own 60 kS60 c7 d1 b7 :: os) hS 2 rfl 58 0 (.slice c7 b7.length d1) [.slice c7 b7.length d1] (by kernel_rfl) (by kernel_rfl) (by kernel_rfl) (by kernel_rfl) (by kernel_rfl) (by kernel_rfl) rfl rfl ?_)
   intro w hS
   have hC : Core B [Ass.box 36 b6 [.int .i32 a4, .int .i64 a5, .int .i64 a6, .slice a2 a1.length a3, .int .i32 a7, .int .i32 a8, .int .i32 a9, .int .i32 b0, .int .i64 b2, .int .i64 b3, .int .u32 b4, .int .i64 b5]] [Ro.sl (Kd.int .i32) a2 a3 a1] _ := ⟨_, _, hS.re [1] [] rfl (sub_cons 1 rfl sub_self)⟩
   refine ⟨hC, ?_⟩
   refine ED.done (by kernel_rfl) ?_
   refine EQ.to ?_
   refine EQ.keep [] [] (by kernel_rfl) ?_
   exact fun a ha => ⟨(some ⟨d7, 0, none⟩), 1, c7, d1, ha, (hS.re [3, 3, 3, 3] [] rfl (sub_cons 1 rfl (sub_cons 1 rfl (sub_tail (sub_tail (sub_tail (sub_self)))))))⟩
  ·have hS : St B _ (Ass.box 36 b6 [.int .i32 a4, .int .i64 a5, .int .i64 a6, .slice a2 a1.length a3, .int .i32 a7, .int .i32 a8, .int .i32 a9, .int .i32 b0, .int .i64 b2, .int .i64 b3, .int .u32 b4, .int .i64 b5] :: Ass.box 93 b8 [.slice c3 b9.length c4] :: Ass.own 60 kS60 c3 c4 b9 :: os) (Ro.sl (Kd.int .i32) a2 a3 a1 :: Ro.sl (Kd.int .i32) a2 a3 a1 :: rs) := hS.re [] [] rfl (sub_cons 0 rfl sub_self)
   refine EO.callD 44 [.agg #[.int .i32 a4, .int .i64 a5, .int .i64 a6, .slice a2 a1.length a3, .int .i32 a7, .int .i32 a8, .int .i32 a9, .int .i32 b0, .int .i64 b2, .int .i64 b3, .int .u32 b4, .int .i64 b5, .int .i32 c5]] _ 14 (by kernel_rfl) (by kernel_rfl) (by kernel_rfl) (park_copied.calls e7 hS) ?_
   rintro v w ⟨c0, c1, rfl, hS⟩
   have hC : Core B [Ass.box 36 b6 [.int .i32 a4, .int .i64 a5, .int .i64 a6, .slice a2 a1.length a3, .int .i32 a7, .int .i32 a8, .int .i32 a9, .int .i32 b0, .int .i64 b2, .int .i64 b3, .int .u32 b4, .int .i64 b5]] [Ro.sl (Kd.int .i32) a2 a3 a1] _ := ⟨_, _, hS.re [0] [] rfl (sub_cons 1 rfl sub_self)⟩
   refine ⟨hC, ?_⟩
   refine ED.at' #[true, true, true, true, false, true, true, true, true, false, false, false, false, false] (by kernel_rfl) ?_
   refine ED.two 4 9 5 (by kernel_rfl) (by kernel_rfl) ?_ ?_
   ·refine EO.Y (YO.loadBox hS 1 rfl 58 0 1 (.slice c3 b9.length c4) 10 (by kernel_rfl) (by kernel_rfl) (by kernel_rfl) (by kernel_rfl)) ?_
    have hC : Core B [Ass.box 36 b6 [.int .i32 a4, .int .i64 a5, .int .i64 a6, .slice a2 a1.length a3, .int .i32 a7, .int .i32 a8, .int .i32 a9, .int .i32 b0, .int .i64 b2, .int .i64 b3, .int .u32 b4, .int .i64 b5]] [Ro.sl (Kd.int .i32) a2 a3 a1] _ := ⟨_, _, hS.re [0] [] rfl (sub_cons 1 rfl sub_self)⟩
    refine ⟨hC, ?_⟩
    refine ED.at' #[true, true, true, true, true, true, true, true, true, false, false, false, false, false] (by kernel_rfl) ?_
    refine ED.one 9 4 #[true, true, true, true, true, true, true, true, true, true, false, false, false, false] (by kernel_rfl) (by kernel_rfl) (by kernel_rfl) (EO.lit hS kS60 60 58 1 #[(0, .agg #[.int .i32 a0.f0.f0, .int .i64 a0.f0.f1, .int .i64 a0.f0.f2, .slice c0 a0.f0.f3.length c1, .int .i32 a0.f0.f4.f0, .int .i32 a0.f0.f4.f1, .int .i32 a0.f0.f4.f2, .int .i32 a0.f0.f4.f3, .int .i64 a0.f0.f5, .int .i64 a0.f0.f6, .int .u32 a0.f0.f7, .int .i64 a0.f0.f8, .int .i32 a0.f1])] [.int .i32 a0.f0.f0, .int .i64 a0.f0.f1, .int .i64 a0.f0.f2, .slice c0 a0.f0.f3.length c1, .int .i32 a0.f0.f4.f0, .int .i32 a0.f0.f4.f1, .int .i32 a0.f0.f4.f2, .int .i32 a0.f0.f4.f3, .int .i64 a0.f0.f5, .int .i64 a0.f0.f6, .int .u32 a0.f0.f7, .int .i64 a0.f0.f8, .int .i32 a0.f1] c2 15 (by kernel_rfl) (by kernel_rfl) (by kernel_rfl) (fun _ => (by kernel_rfl)) (by rw [d4]; rfl) (by kernel_rfl) (fun w G hr => (by rw [d4]; exact ⟨[.int .i32 a0.f0.f0, .int .i64 a0.f0.f1, .int .i64 a0.f0.f2, .slice c0 a0.f0.f3.length c1, .int .i32 a0.f0.f4.f0, .int .i32 a0.f0.f4.f1, .int .i32 a0.f0.f4.f2, .int .i32 a0.f0.f4.f3, .int .i64 a0.f0.f5, .int .i64 a0.f0.f6, .int .u32 a0.f0.f7, .int .i64 a0.f0.f8, .int .i32 a0.f1], [], rfl, ⟨[.int .i32 a0.f0.f0, .int .i64 a0.f0.f1, .int .i64 a0.f0.f2, .slice c0 a0.f0.f3.length c1, .int .i32 a0.f0.f4.f0, .int .i32 a0.f0.f4.f1, .int .i32 a0.f0.f4.f2, .int .i32 a0.f0.f4.f3, .int .i64 a0.f0.f5, .int .i64 a0.f0.f6, .int .u32 a0.f0.f7, .int .i64 a0.f0.f8], [.int .i32 a0.f1], rfl, ⟨[.int .i32 a0.f0.f0], [.int .i64 a0.f0.f1, .int .i64 a0.f0.f2, .slice c0 a0.f0.f3.length c1, .int .i32 a0.f0.f4.f0, .int .i32 a0.f0.f4.f1, .int .i32 a0.f0.f4.f2, .int .i32 a0.f0.f4.f3, .int .i64 a0.f0.f5, .int .i64 a0.f0.f6, .int .u32 a0.f0.f7, .int .i64 a0.f0.f8], rfl, rfl, ⟨[.int .i64 a0.f0.f1], [.int .i64 a0.f0.f2, .slice c0 a0.f0.f3.length c1, .int .i32 a0.f0.f4.f0, .int .i32 a0.f0.f4.f1, .int .i32 a0.f0.f4.f2, .int .i32 a0.f0.f4.f3, .int .i64 a0.f0.f5, .int .i64 a0.f0.f6, .int .u32 a0.f0.f7, .int .i64 a0.f0.f8], rfl, rfl, ⟨[.int .i64 a0.f0.f2], [.slice c0 a0.f0.f3.length c1, .int .i32 a0.f0.f4.f0, .int .i32 a0.f0.f4.f1, .int .i32 a0.f0.f4.f2, .int .i32 a0.f0.f4.f3, .int .i64 a0.f0.f5, .int .i64 a0.f0.f6, .int .u32 a0.f0.f7, .int .i64 a0.f0.f8], rfl, rfl, ⟨[.slice c0 a0.f0.f3.length c1], [.int .i32 a0.f0.f4.f0, .int .i32 a0.f0.f4.f1, .int .i32 a0.f0.f4.f2, .int .i32 a0.f0.f4.f3, .int .i64 a0.f0.f5, .int .i64 a0.f0.f6, .int .u32 a0.f0.f7, .int .i64 a0.f0.f8], rfl, (hr _ (List.mem_of_getElem? (i := 0) rfl)), ⟨[.int .i32 a0.f0.f4.f0, .int .i32 a0.f0.f4.f1, .int .i32 a0.f0.f4.f2, .int .i32 a0.f0.f4.f3], [.int .i64 a0.f0.f5, .int .i64 a0.f0.f6, .int .u32 a0.f0.f7, .int .i64 a0.f0.f8], rfl, ⟨[.int .i32 a0.f0.f4.f0], [.int .i32 a0.f0.f4.f1, .int .i32 a0.f0.f4.f2, .int .i32 a0.f0.f4.f3], rfl, rfl, ⟨[.int .i32 a0.f0.f4.f1], [.int .i32 a0.f0.f4.f2, .int .i32 a0.f0.f4.f3], rfl, rfl, ⟨[.int .i32 a0.f0.f4.f2], [.int .i32 a0.f0.f4.f3], rfl, rfl, ⟨[.int .i32 a0.f0.f4.f3], [], rfl, rfl, rfl⟩⟩⟩⟩, ⟨[.int .i64 a0.f0.f5], [.int .i64 a0.f0.f6, .int .u32 a0.f0.f7, .int .i64 a0.f0.f8], rfl, rfl, ⟨[.int .i64 a0.f0.f6], [.int .u32 a0.f0.f7, .int .i64 a0.f0.f8], rfl, rfl, ⟨[.int .u32 a0.f0.f7], [.int .i64 a0.f0.f8], rfl, rfl, ⟨[.int .i64 a0.f0.f8], [], rfl, rfl, rfl⟩⟩⟩⟩⟩⟩⟩⟩⟩, ⟨[.int .i32 a0.f1], [], rfl, rfl, rfl⟩⟩, rfl⟩)) ?_)
    intro d8 w hS
    have hC : Core B [Ass.box 36 b6 [.int .i32 a4, .int .i64 a5, .int .i64 a6, .slice a2 a1.length a3, .int .i32 a7, .int .i32 a8, .int .i32 a9, .int .i32 b0, .int .i64 b2, .int .i64 b3, .int .u32 b4, .int .i64 b5]] [Ro.sl (Kd.int .i32) a2 a3 a1] _ := ⟨_, _, hS.re [1] [] rfl (sub_cons 1 rfl sub_self)⟩
    refine ⟨hC, ?_⟩
    refine ED.one 10 3 #[true, true, true, true, true, true, true, true, true, true, true, false, false, false] (by kernel_rfl) (by kernel_rfl) (by kernel_rfl) (EO.append hS 58 58 60 104 3 kS60 c3 c4 b9 rfl (some ⟨d8, 0, none⟩) 1 c2 (Rd.own 0 60 rfl) b7 e1 (fun c8 d2 => Ass.own 60 kS60 (some ⟨d8, 0, none⟩) 1 c2 :: Ass.box 36 b6 [.int .i32 a4, .int .i64 a5, .int .i64 a6, .slice a2 a1.length a3, .int .i32 a7, .int .i32 a8, .int .i32 a9, .int .i32 b0, .int .i64 b2, .int .i64 b3, .int .u32 b4, .int .i64 b5] :: Ass.box 93 b8 [.slice c3 b9.length c4] :: Ass.own 60 kS60 c8 d2 b7 :: os) 16 (by kernel_rfl) (by kernel_rfl) (by kernel_rfl) (by kernel_rfl) e0 (fun _ _ => rfl) ?_)
    intro c8 d2 w hS
    have hC : Core B [Ass.box 36 b6 [.int .i32 a4, .int .i64 a5, .int .i64 a6, .slice a2 a1.length a3, .int .i32 a7, .int .i32 a8, .int .i32 a9, .int .i32 b0, .int .i64 b2, .int .i64 b3, .int .u32 b4, .int .i64 b5]] [Ro.sl (Kd.int .i32) a2 a3 a1] _ := ⟨_, _, hS.re [1] [] rfl (sub_cons 1 rfl sub_self)⟩
    refine ⟨hC, ?_⟩
    refine ED.quick hN hF hC [11, 12] [16, 18] 1 [(16, .slice c8 b7.length d2), (18, .pointer (some ⟨b8, 0, none⟩))] #[true, true, true, true, true, true, true, true, true, true, true, true, true, false] (by kernel_rfl) (by kernel_rfl) ?_
    refine ED.one 13 0 #[true, true, true, true, true, true, true, true, true, true, true, true, true, true] (by kernel_rfl) (by kernel_rfl) (by kernel_rfl) (EO.storeBox (os' := Ass.own 60 kS60 (some ⟨d8, 0, none⟩) 1 c2 :: Ass.box 36 b6 [.int .i32 a4, .int .i64 a5, .int .i64 a6, .slice a2 a1.length a3, .int .i32 a7, .int .i32 a8, .int .i32 a9, .int .i32 b0, .int .i64 b2, .int .i64 b3, .int .u32 b4, .int .i64 b5] :: Ass.box 93 b8 [.slice c8 b7.length d2] :: Ass.own 60 kS60 c8 d2 b7 :: os) hS 2 rfl 58 0 (.slice c8 b7.length d2) [.slice c8 b7.length d2] (by kernel_rfl) (by kernel_rfl) (by kernel_rfl) (by kernel_rfl) (by kernel_rfl) (by kernel_rfl) rfl rfl ?_)
    intro w hS
    have hC : Core B [Ass.box 36 b6 [.int .i32 a4, .int .i64 a5, .int .i64 a6, .slice a2 a1.length a3, .int .i32 a7, .int .i32 a8, .int .i32 a9, .int .i32 b0, .int .i64 b2, .int .i64 b3, .int .u32 b4, .int .i64 b5]] [Ro.sl (Kd.int .i32) a2 a3 a1] _ := ⟨_, _, hS.re [1] [] rfl (sub_cons 1 rfl sub_self)⟩
    refine ⟨hC, ?_⟩
    refine ED.done (by kernel_rfl) ?_
    refine EQ.to ?_
    refine EQ.keep [] [] (by kernel_rfl) ?_
    exact fun a ha => ⟨(some ⟨d8, 0, none⟩), 1, c8, d2, ha, (hS.re [3, 3, 3, 3] [] rfl (sub_cons 1 rfl (sub_cons 1 rfl (sub_tail (sub_tail (sub_tail (sub_self)))))))⟩
   ·refine EO.lit hS kS60 60 58 1 #[(0, .agg #[.int .i32 a0.f0.f0, .int .i64 a0.f0.f1, .int .i64 a0.f0.f2, .slice c0 a0.f0.f3.length c1, .int .i32 a0.f0.f4.f0, .int .i32 a0.f0.f4.f1, .int .i32 a0.f0.f4.f2, .int .i32 a0.f0.f4.f3, .int .i64 a0.f0.f5, .int .i64 a0.f0.f6, .int .u32 a0.f0.f7, .int .i64 a0.f0.f8, .int .i32 a0.f1])] [.int .i32 a0.f0.f0, .int .i64 a0.f0.f1, .int .i64 a0.f0.f2, .slice c0 a0.f0.f3.length c1, .int .i32 a0.f0.f4.f0, .int .i32 a0.f0.f4.f1, .int .i32 a0.f0.f4.f2, .int .i32 a0.f0.f4.f3, .int .i64 a0.f0.f5, .int .i64 a0.f0.f6, .int .u32 a0.f0.f7, .int .i64 a0.f0.f8, .int .i32 a0.f1] c2 15 (by kernel_rfl) (by kernel_rfl) (by kernel_rfl) (fun _ => (by kernel_rfl)) (by rw [d4]; rfl) (by kernel_rfl) (fun w G hr => (by rw [d4]; exact ⟨[.int .i32 a0.f0.f0, .int .i64 a0.f0.f1, .int .i64 a0.f0.f2, .slice c0 a0.f0.f3.length c1, .int .i32 a0.f0.f4.f0, .int .i32 a0.f0.f4.f1, .int .i32 a0.f0.f4.f2, .int .i32 a0.f0.f4.f3, .int .i64 a0.f0.f5, .int .i64 a0.f0.f6, .int .u32 a0.f0.f7, .int .i64 a0.f0.f8, .int .i32 a0.f1], [], rfl, ⟨[.int .i32 a0.f0.f0, .int .i64 a0.f0.f1, .int .i64 a0.f0.f2, .slice c0 a0.f0.f3.length c1, .int .i32 a0.f0.f4.f0, .int .i32 a0.f0.f4.f1, .int .i32 a0.f0.f4.f2, .int .i32 a0.f0.f4.f3, .int .i64 a0.f0.f5, .int .i64 a0.f0.f6, .int .u32 a0.f0.f7, .int .i64 a0.f0.f8], [.int .i32 a0.f1], rfl, ⟨[.int .i32 a0.f0.f0], [.int .i64 a0.f0.f1, .int .i64 a0.f0.f2, .slice c0 a0.f0.f3.length c1, .int .i32 a0.f0.f4.f0, .int .i32 a0.f0.f4.f1, .int .i32 a0.f0.f4.f2, .int .i32 a0.f0.f4.f3, .int .i64 a0.f0.f5, .int .i64 a0.f0.f6, .int .u32 a0.f0.f7, .int .i64 a0.f0.f8], rfl, rfl, ⟨[.int .i64 a0.f0.f1], [.int .i64 a0.f0.f2, .slice c0 a0.f0.f3.length c1, .int .i32 a0.f0.f4.f0, .int .i32 a0.f0.f4.f1, .int .i32 a0.f0.f4.f2, .int .i32 a0.f0.f4.f3, .int .i64 a0.f0.f5, .int .i64 a0.f0.f6, .int .u32 a0.f0.f7, .int .i64 a0.f0.f8], rfl, rfl, ⟨[.int .i64 a0.f0.f2], [.slice c0 a0.f0.f3.length c1, .int .i32 a0.f0.f4.f0, .int .i32 a0.f0.f4.f1, .int .i32 a0.f0.f4.f2, .int .i32 a0.f0.f4.f3, .int .i64 a0.f0.f5, .int .i64 a0.f0.f6, .int .u32 a0.f0.f7, .int .i64 a0.f0.f8], rfl, rfl, ⟨[.slice c0 a0.f0.f3.length c1], [.int .i32 a0.f0.f4.f0, .int .i32 a0.f0.f4.f1, .int .i32 a0.f0.f4.f2, .int .i32 a0.f0.f4.f3, .int .i64 a0.f0.f5, .int .i64 a0.f0.f6, .int .u32 a0.f0.f7, .int .i64 a0.f0.f8], rfl, (hr _ (List.mem_of_getElem? (i := 0) rfl)), ⟨[.int .i32 a0.f0.f4.f0, .int .i32 a0.f0.f4.f1, .int .i32 a0.f0.f4.f2, .int .i32 a0.f0.f4.f3], [.int .i64 a0.f0.f5, .int .i64 a0.f0.f6, .int .u32 a0.f0.f7, .int .i64 a0.f0.f8], rfl, ⟨[.int .i32 a0.f0.f4.f0], [.int .i32 a0.f0.f4.f1, .int .i32 a0.f0.f4.f2, .int .i32 a0.f0.f4.f3], rfl, rfl, ⟨[.int .i32 a0.f0.f4.f1], [.int .i32 a0.f0.f4.f2, .int .i32 a0.f0.f4.f3], rfl, rfl, ⟨[.int .i32 a0.f0.f4.f2], [.int .i32 a0.f0.f4.f3], rfl, rfl, ⟨[.int .i32 a0.f0.f4.f3], [], rfl, rfl, rfl⟩⟩⟩⟩, ⟨[.int .i64 a0.f0.f5], [.int .i64 a0.f0.f6, .int .u32 a0.f0.f7, .int .i64 a0.f0.f8], rfl, rfl, ⟨[.int .i64 a0.f0.f6], [.int .u32 a0.f0.f7, .int .i64 a0.f0.f8], rfl, rfl, ⟨[.int .u32 a0.f0.f7], [.int .i64 a0.f0.f8], rfl, rfl, ⟨[.int .i64 a0.f0.f8], [], rfl, rfl, rfl⟩⟩⟩⟩⟩⟩⟩⟩⟩, ⟨[.int .i32 a0.f1], [], rfl, rfl, rfl⟩⟩, rfl⟩)) ?_
    intro d9 w hS
    have hC : Core B [Ass.box 36 b6 [.int .i32 a4, .int .i64 a5, .int .i64 a6, .slice a2 a1.length a3, .int .i32 a7, .int .i32 a8, .int .i32 a9, .int .i32 b0, .int .i64 b2, .int .i64 b3, .int .u32 b4, .int .i64 b5]] [Ro.sl (Kd.int .i32) a2 a3 a1] _ := ⟨_, _, hS.re [1] [] rfl (sub_cons 1 rfl sub_self)⟩
    refine ⟨hC, ?_⟩
    refine ED.at' #[true, true, true, true, false, true, true, true, true, true, false, false, false, false] (by kernel_rfl) ?_
    refine ED.one 4 4 #[true, true, true, true, true, true, true, true, true, true, false, false, false, false] (by kernel_rfl) (by kernel_rfl) (by kernel_rfl) (EO.Y (YO.loadBox hS 2 rfl 58 0 1 (.slice c3 b9.length c4) 10 (by kernel_rfl) (by kernel_rfl) (by kernel_rfl) (by kernel_rfl)) ?_)
    have hC : Core B [Ass.box 36 b6 [.int .i32 a4, .int .i64 a5, .int .i64 a6, .slice a2 a1.length a3, .int .i32 a7, .int .i32 a8, .int .i32 a9, .int .i32 b0, .int .i64 b2, .int .i64 b3, .int .u32 b4, .int .i64 b5]] [Ro.sl (Kd.int .i32) a2 a3 a1] _ := ⟨_, _, hS.re [1] [] rfl (sub_cons 1 rfl sub_self)⟩
    refine ⟨hC, ?_⟩
    refine ED.one 10 3 #[true, true, true, true, true, true, true, true, true, true, true, false, false, false] (by kernel_rfl) (by kernel_rfl) (by kernel_rfl) (EO.append hS 58 58 60 104 3 kS60 c3 c4 b9 rfl (some ⟨d9, 0, none⟩) 1 c2 (Rd.own 0 60 rfl) b7 e1 (fun c9 d3 => Ass.own 60 kS60 (some ⟨d9, 0, none⟩) 1 c2 :: Ass.box 36 b6 [.int .i32 a4, .int .i64 a5, .int .i64 a6, .slice a2 a1.length a3, .int .i32 a7, .int .i32 a8, .int .i32 a9, .int .i32 b0, .int .i64 b2, .int .i64 b3, .int .u32 b4, .int .i64 b5] :: Ass.box 93 b8 [.slice c3 b9.length c4] :: Ass.own 60 kS60 c9 d3 b7 :: os) 16 (by kernel_rfl) (by kernel_rfl) (by kernel_rfl) (by kernel_rfl) e0 (fun _ _ => rfl) ?_)
    intro c9 d3 w hS
    have hC : Core B [Ass.box 36 b6 [.int .i32 a4, .int .i64 a5, .int .i64 a6, .slice a2 a1.length a3, .int .i32 a7, .int .i32 a8, .int .i32 a9, .int .i32 b0, .int .i64 b2, .int .i64 b3, .int .u32 b4, .int .i64 b5]] [Ro.sl (Kd.int .i32) a2 a3 a1] _ := ⟨_, _, hS.re [1] [] rfl (sub_cons 1 rfl sub_self)⟩
    refine ⟨hC, ?_⟩
    refine ED.quick hN hF hC [11, 12] [16, 18] 1 [(16, .slice c9 b7.length d3), (18, .pointer (some ⟨b8, 0, none⟩))] #[true, true, true, true, true, true, true, true, true, true, true, true, true, false] (by kernel_rfl) (by kernel_rfl) ?_
    refine ED.one 13 0 #[true, true, true, true, true, true, true, true, true, true, true, true, true, true] (by kernel_rfl) (by kernel_rfl) (by kernel_rfl) (EO.storeBox (os' := Ass.own 60 kS60 (some ⟨d9, 0, none⟩) 1 c2 :: Ass.box 36 b6 [.int .i32 a4, .int .i64 a5, .int .i64 a6, .slice a2 a1.length a3, .int .i32 a7, .int .i32 a8, .int .i32 a9, .int .i32 b0, .int .i64 b2, .int .i64 b3, .int .u32 b4, .int .i64 b5] :: Ass.box 93 b8 [.slice c9 b7.length d3] :: Ass.own 60 kS60 c9 d3 b7 :: os) hS 2 rfl 58 0 (.slice c9 b7.length d3) [.slice c9 b7.length d3] (by kernel_rfl) (by kernel_rfl) (by kernel_rfl) (by kernel_rfl) (by kernel_rfl) (by kernel_rfl) rfl rfl ?_)
    intro w hS
    have hC : Core B [Ass.box 36 b6 [.int .i32 a4, .int .i64 a5, .int .i64 a6, .slice a2 a1.length a3, .int .i32 a7, .int .i32 a8, .int .i32 a9, .int .i32 b0, .int .i64 b2, .int .i64 b3, .int .u32 b4, .int .i64 b5]] [Ro.sl (Kd.int .i32) a2 a3 a1] _ := ⟨_, _, hS.re [1] [] rfl (sub_cons 1 rfl sub_self)⟩
    refine ⟨hC, ?_⟩
    refine ED.done (by kernel_rfl) ?_
    refine EQ.to ?_
    refine EQ.keep [] [] (by kernel_rfl) ?_
    exact fun a ha => ⟨(some ⟨d9, 0, none⟩), 1, c9, d3, ha, (hS.re [3, 3, 3, 3] [] rfl (sub_cons 1 rfl (sub_cons 1 rfl (sub_tail (sub_tail (sub_tail (sub_self)))))))⟩
 ·obtain ⟨e4, e6, d5, d6, ha, hS⟩ := hI
  refine EQ.at ?_ a ha
  clear ha a
  obtain rfl := Option.some.inj H
  exact EQ.leaveN (.tuple #[]) (by kernel_rfl) ⟨_, rfl, d5, d6, rfl, (hS.re [3, 3] [2, 2] rfl (sub_tail (sub_self)))⟩

/-! ### (*confidant/future.Futures).Get: function 66 -/
def future_Futures_Get.f (K : Nat) (a1 : List (List S96)) (a5 : List Int) (a9 : Int) : Option (S96 × Bool) := b1 (ident_Label.f K a9) fun (a0 : Int) => (b1 (ident_Number.f K a9) fun (a2 : Int) => (lt (fun (b7 : Bool) => (if b7 = true then (some ((⟨0, 0, 0, 0⟩ : S96), false)) else (if 0 ≤ a0 then (if a0 < (a1.length : Int) then (if 0 ≤ a2 then (if a2 < ((a1.getD a0.toNat []).length : Int) then (some ((⟨((a1.getD a0.toNat []).getD a2.toNat zS96).f0, ((a1.getD a0.toNat []).getD a2.toNat zS96).f1, ((a1.getD a0.toNat []).getD a2.toNat zS96).f2, ((a1.getD a0.toNat []).getD a2.toNat zS96).f3⟩ : S96), true)) else none) else none) else none) else none))) fun b8 => (if a0 < 0 then (b8 true) else (if a0 ≥ (a1.length : Int) then (b8 true) else (if 0 ≤ a0 then (if a0 < (a1.length : Int) then (b8 (decide (a2 ≥ ((a1.getD a0.toNat []).length : Int)))) else none) else none)))))
set_option maxRecDepth 100000 in
theorem future_Futures_Get.calls {K : Nat} {a1 : List (List S96)} {a5 : List Int} {a9 : Int} {a3 : Nat} {b0 : Option Addr} {a4 : Nat} {a7 : Option Addr} {a8 : Nat} {b6 : S96} {c9 : Bool} {B w : World} {os : List Ass} {rs : List Ro} (H : future_Futures_Get.f K a1 a5 a9 = some (b6, c9)) (hS : St B w (Ass.box 91 a3 [.slice b0 a1.length a4, .slice a7 a5.length a8] :: Ass.deep 94 96 kS96 b0 a4 a1 :: Ass.own 3 (Kd.int .i64) a7 a8 a5 :: os) (rs)) :
  Calls Try.prog 66 [.pointer (some ⟨a3, 0, none⟩), .int .i32 a9].toArray w (fun en w' => ∃ v, en = .returned v ∧ v = .tuple #[.agg #[.int .i64 b6.f0, .int .i64 b6.f1, .int .i32 b6.f2, .int .i64 b6.f3], .bool (c9)] ∧ St B w' (Ass.box 91 a3 [.slice b0 a1.length a4, .slice a7 a5.length a8] :: Ass.deep 94 96 kS96 b0 a4 a1 :: Ass.own 3 (Kd.int .i64) a7 a8 a5 :: os) (rs)) := by
 unfold future_Futures_Get.f at H
 refine calls_of_EW (args := [.pointer (some ⟨a3, 0, none⟩), .int .i32 a9]) (c := Cd66) 16 Try.func66 (by kernel_rfl) (by kernel_rfl) (by kernel_rfl) ?_
 refine EW.seq (x := Cd66.l) (y := Cd66.r) (by kernel_rfl) ?_
 refine EW.region (id := 0) (ops := Cd66.l.ops) (by kernel_rfl) ?_
 refine EL.of (EO.alloc hS 96 (.agg #[.int .i64 0, .int .i64 0, .int .i32 0, .int .i64 0]) [.int .i64 0, .int .i64 0, .int .i32 0, .int .i64 0] 4 (by kernel_rfl) (by kernel_rfl) (by kernel_rfl) (by kernel_rfl) (by first | rfl | kernel_rfl) ?_)
 intro a6 w hS
 refine EL.quick 1 [0, 1, 4] [(0, .pointer (some ⟨a3, 0, none⟩)), (1, .int .i32 a9), (4, .pointer (some ⟨a6, 0, none⟩))] (by kernel_rfl) ?_
 refine EL.done (by kernel_rfl) ?_
 refine EQ.code ?_
 refine EW.seq (x := Cd66.r.l) (y := Cd66.r.r) (by kernel_rfl) ?_
 refine EW.region (id := 1) (ops := Cd66.r.l.ops) (by kernel_rfl) ?_
 refine EL.quick 2 [4, 7, 8] [(4, .pointer (some ⟨a6, 0, none⟩)), (7, .pointer (some ⟨a3, 0, none⟩)), (8, .int .i32 a9)] (by kernel_rfl) ?_
 refine EL.inline 64 [.pointer (some ⟨a3, 0, none⟩), .int .i32 a9] 9 (by kernel_rfl) (by kernel_rfl) (by kernel_rfl) ?_
 refine calls_of_EW (args := [.pointer (some ⟨a3, 0, none⟩), .int .i32 a9]) (c := Cd64) 43 Try.func64 (by kernel_rfl) (by kernel_rfl) (by kernel_rfl) ?_
 refine EW.seq (x := Cd64.l) (y := Cd64.r) (by kernel_rfl) ?_
 refine EW.region (id := 0) (ops := Cd64.l.ops) (by kernel_rfl) ?_
 refine EL.quick 1 [0, 1] [(0, .pointer (some ⟨a3, 0, none⟩)), (1, .int .i32 a9)] (by kernel_rfl) ?_
 refine EL.done (by kernel_rfl) ?_
 refine EQ.code ?_
 refine EW.seq (x := Cd64.r.l) (y := Cd64.r.r) (by kernel_rfl) ?_
 refine EW.region (id := 1) (ops := Cd64.r.l.ops) (by kernel_rfl) ?_
 refine EL.quick 1 [0, 1, 7] [(0, .pointer (some ⟨a3, 0, none⟩)), (1, .int .i32 a9), (7, .int .i32 a9)] (by kernel_rfl) ?_
 obtain ⟨a0, d2, H⟩ := b1_out H
 refine EL.of (EO.callD 73 [.int .i32 a9] _ 8 (by kernel_rfl) (by kernel_rfl) (by kernel_rfl) (ident_Label.calls d2 hS) ?_)
 rintro v w ⟨rfl, hS⟩
 refine EL.quick 1 [0, 8, 9] [(0, .pointer (some ⟨a3, 0, none⟩)), (8, .int .i64 a0), (9, .int .i32 a9)] (by kernel_rfl) ?_
 obtain ⟨a2, d3, H⟩ := b1_out H
 refine EL.of (EO.callD 74 [.int .i32 a9] _ 10 (by kernel_rfl) (by kernel_rfl) (by kernel_rfl) (ident_Number.calls d3 hS) ?_)
 rintro v w ⟨rfl, hS⟩
 refine EL.quick 2 [0, 5, 6] [(0, .pointer (some ⟨a3, 0, none⟩)), (5, .int .i64 a0), (6, .int .i64 a2)] (by kernel_rfl) ?_
 refine EL.done (by kernel_rfl) ?_
 refine EQ.code ?_
 refine EW.seq (x := Cd64.r.r.l) (y := Cd64.r.r.r) (by kernel_rfl) ?_
 obtain ⟨b8, d4, H⟩ := lt_out H
 refine EW.cut (x := Cd64.r.r.l.l) (y := Cd64.r.r.l.r) (fun a w => ∃ b7 : Bool, Sat 43 [(0, .pointer (some ⟨a3, 0, none⟩)), (5, .int .i64 a0), (6, .int .i64 a2), (33, .bool (b7))] a ∧ St B w (Ass.box 96 a6 [.int .i64 0, .int .i64 0, .int .i32 0, .int .i64 0] :: Ass.box 91 a3 [.slice b0 a1.length a4, .slice a7 a5.length a8] :: Ass.deep 94 96 kS96 b0 a4 a1 :: Ass.own 3 (Kd.int .i64) a7 a8 a5 :: os) (rs) ∧ b8 b7 = some (b6, c9)) (by kernel_rfl) ?_ (fun a w hI => ?_)
 ·refine EW.region (id := 2) (ops := Cd64.r.r.l.l.ops) (by kernel_rfl) ?_
  refine EL.quick 3 [0, 5, 6, 13] [(0, .pointer (some ⟨a3, 0, none⟩)), (5, .int .i64 a0), (6, .int .i64 a2), (13, .bool (decide (a0 < 0)))] (by kernel_rfl) ?_
  by_cases b9 : a0 < 0
  ·rw [if_pos b9] at H
   refine EL.keep [0, 5, 6, 13] [(0, .pointer (some ⟨a3, 0, none⟩)), (5, .int .i64 a0), (6, .int .i64 a2), (13, .bool (decide (a0 < 0)))] (by kernel_rfl) ?_
   refine EL.as' [(0, .pointer (some ⟨a3, 0, none⟩)), (5, .int .i64 a0), (6, .int .i64 a2), (13, .bool (true))] (by simp only [dec_t b9, Bool.not_true, Bool.not_false]) ?_
   refine EL.quick 20 [0, 5, 6, 33] [(0, .pointer (some ⟨a3, 0, none⟩)), (5, .int .i64 a0), (6, .int .i64 a2), (33, .bool (true))] (by kernel_rfl) ?_
   refine EL.done (by kernel_rfl) ?_
   refine EQ.to ?_
   refine EQ.keep [0, 5, 6, 33] [(0, .pointer (some ⟨a3, 0, none⟩)), (5, .int .i64 a0), (6, .int .i64 a2), (33, .bool (true))] (by kernel_rfl) ?_
   exact fun a ha => ⟨true, ha, (hS.re [3, 3, 3, 3] [] rfl (sub_self)), H⟩
  ·rw [if_neg b9] at H
   refine EL.keep [0, 5, 6, 13] [(0, .pointer (some ⟨a3, 0, none⟩)), (5, .int .i64 a0), (6, .int .i64 a2), (13, .bool (decide (a0 < 0)))] (by kernel_rfl) ?_
   refine EL.as' [(0, .pointer (some ⟨a3, 0, none⟩)), (5, .int .i64 a0), (6, .int .i64 a2), (13, .bool (false))] (by simp only [dec_f b9, Bool.not_true, Bool.not_false]) ?_
   refine EL.quick 4 [0, 5, 6, 13, 14, 17] [(0, .pointer (some ⟨a3, 0, none⟩)), (5, .int .i64 a0), (6, .int .i64 a2), (13, .bool (false)), (14, .int .i64 a0), (17, .pointer (some ⟨a3, 0, none⟩))] (by kernel_rfl) ?_
   refine EL.of (EO.Y (YO.loadBox hS 1 rfl 89 0 1 (.slice b0 a1.length a4) 18 (by kernel_rfl) (by kernel_rfl) (by kernel_rfl) (by kernel_rfl)) ?_)
   refine EL.quick 4 [0, 5, 6, 22] [(0, .pointer (some ⟨a3, 0, none⟩)), (5, .int .i64 a0), (6, .int .i64 a2), (22, .bool (decide (a0 ≥ (a1.length : Int))))] (by kernel_rfl) ?_
   by_cases c0 : a0 ≥ (a1.length : Int)
   ·rw [if_pos c0] at H
    refine EL.keep [0, 5, 6, 22] [(0, .pointer (some ⟨a3, 0, none⟩)), (5, .int .i64 a0), (6, .int .i64 a2), (22, .bool (decide (a0 ≥ (a1.length : Int))))] (by kernel_rfl) ?_
    refine EL.as' [(0, .pointer (some ⟨a3, 0, none⟩)), (5, .int .i64 a0), (6, .int .i64 a2), (22, .bool (true))] (by simp only [dec_t c0, Bool.not_true, Bool.not_false]) ?_
    refine EL.quick 11 [0, 5, 6, 33] [(0, .pointer (some ⟨a3, 0, none⟩)), (5, .int .i64 a0), (6, .int .i64 a2), (33, .bool (true))] (by kernel_rfl) ?_
    refine EL.done (by kernel_rfl) ?_
    refine EQ.to ?_
    refine EQ.keep [0, 5, 6, 33] [(0, .pointer (some ⟨a3, 0, none⟩)), (5, .int .i64 a0), (6, .int .i64 a2), (33, .bool (true))] (by kernel_rfl) ?_
    exact fun a ha => ⟨true, ha, (hS.re [3, 3, 3, 3] [] rfl (sub_self)), H⟩
   ·rw [if_neg c0] at H
    refine EL.keep [0, 5, 6, 22] [(0, .pointer (some ⟨a3, 0, none⟩)), (5, .int .i64 a0), (6, .int .i64 a2), (22, .bool (decide (a0 ≥ (a1.length : Int))))] (by kernel_rfl) ?_
    refine EL.as' [(0, .pointer (some ⟨a3, 0, none⟩)), (5, .int .i64 a0), (6, .int .i64 a2), (22, .bool (false))] (by simp only [dec_f c0, Bool.not_true, Bool.not_false]) ?_
    refine EL.quick 4 [0, 5, 6, 22, 23, 26] [(0, .pointer (some ⟨a3, 0, none⟩)), (5, .int .i64 a0), (6, .int .i64 a2), (22, .bool (false)), (23, .int .i64 a2), (26, .pointer (some ⟨a3, 0, none⟩))] (by kernel_rfl) ?_
    refine EL.of (EO.Y (YO.loadBox hS 1 rfl 89 0 1 (.slice b0 a1.length a4) 27 (by kernel_rfl) (by kernel_rfl) (by kernel_rfl) (by kernel_rfl)) ?_)
    refine EL.quick 1 [0, 5, 6, 22, 23, 27, 28] [(0, .pointer (some ⟨a3, 0, none⟩)), (5, .int .i64 a0), (6, .int .i64 a2), (22, .bool (false)), (23, .int .i64 a2), (27, .slice b0 a1.length a4), (28, .int .i64 a0)] (by kernel_rfl) ?_
    obtain ⟨c2, H⟩ := ite_in H
    obtain ⟨c3, H⟩ := ite_in H
    obtain ⟨b5, rfl⟩ := St.deep_some hS 2 rfl c2 c3
    refine EL.of (EO.Y (YO.idx 89 1 b5 a1.length a4 .i64 a0 29 (by kernel_rfl) (by kernel_rfl) (by kernel_rfl) (by kernel_rfl) c2 c3) ?_)
    refine EL.of (EO.openEl hS 2 b5 rfl a0 c2 c3 (fun d0 d1 => Ass.box 96 a6 [.int .i64 0, .int .i64 0, .int .i32 0, .int .i64 0] :: Ass.box 91 a3 [.slice (some b5) a1.length a4, .slice a7 a5.length a8] :: Ass.holed 94 96 kS96 (some b5) a4 a1 a0.toNat (d0, (a1.getD a0.toNat []).length, d1) :: Ass.own 3 (Kd.int .i64) a7 a8 a5 :: os) 94 30 (by kernel_rfl) (by kernel_rfl) (by kernel_rfl) (by kernel_rfl) (fun _ _ => rfl) ?_)
    intro d0 d1 hS
    refine EL.quick 3 [0, 5, 6, 33] [(0, .pointer (some ⟨a3, 0, none⟩)), (5, .int .i64 a0), (6, .int .i64 a2), (33, .bool (decide (a2 ≥ ((a1.getD a0.toNat []).length : Int))))] (by kernel_rfl) ?_
    refine EL.done (by kernel_rfl) ?_
    refine EQ.to ?_
    have hS := St.as (os' := Ass.box 96 a6 [.int .i64 0, .int .i64 0, .int .i32 0, .int .i64 0] :: Ass.box 91 a3 [.slice (some b5) a1.length a4, .slice a7 a5.length a8] :: Ass.deep 94 96 kS96 (some b5) a4 a1 :: Ass.own 3 (Kd.int .i64) a7 a8 a5 :: os) (St.close hS 0 2 rfl rfl rfl a1 (set_getD _ _)) rfl
    refine EQ.keep [0, 5, 6, 33] [(0, .pointer (some ⟨a3, 0, none⟩)), (5, .int .i64 a0), (6, .int .i64 a2), (33, .bool (decide (a2 ≥ ((a1.getD a0.toNat []).length : Int))))] (by kernel_rfl) ?_
    exact fun a ha => ⟨decide (a2 ≥ ((a1.getD a0.toNat []).length : Int)), ha, (hS.re [3, 3, 3, 3] [] rfl (sub_self)), H⟩
 ·obtain ⟨b7, ha, hS, H⟩ := hI
  rw [d4] at H
  (try dsimp only at H)
  refine EW.at ?_ a ha
  clear ha a
  refine EW.condP' (o := (.tmp 33)) (x := Cd64.r.r.l.r.l) (y := Cd64.r.r.l.r.r) (b7) (by kernel_rfl) (by kernel_rfl) (fun c4 => ?_) (fun c4 => ?_)
  ·rw [if_pos c4] at H
   refine EW.seq (x := Cd64.r.r.l.r.l.l) (y := Cd64.r.r.l.r.l.r) (by kernel_rfl) ?_
   refine EW.region (id := 3) (ops := Cd64.r.r.l.r.l.l.ops) (by kernel_rfl) ?_
   refine EL.quick 1 [4] [(4, .pointer none)] (by kernel_rfl) ?_
   refine EL.done (by kernel_rfl) ?_
   refine EQ.code ?_
   refine EW.ret (by kernel_rfl) ?_
   refine EQ.ret ?_
   refine EQ.leave (.pointer none) (by kernel_rfl) ⟨_, rfl, ?_⟩
   refine EL.quick 1 [4, 6] [(4, .pointer (some ⟨a6, 0, none⟩)), (6, .pointer none)] (by kernel_rfl) ?_
   refine EL.done (by kernel_rfl) ?_
   refine EQ.code ?_
   refine EW.seq (x := Cd66.r.r.l) (y := Cd66.r.r.r) (by kernel_rfl) ?_
   refine EW.seq (x := Cd66.r.r.l.l) (y := Cd66.r.r.l.r) (by kernel_rfl) ?_
   refine EW.region (id := 2) (ops := Cd66.r.r.l.l.ops) (by kernel_rfl) ?_
   refine EL.quick 2 [4, 6, 11] [(4, .pointer (some ⟨a6, 0, none⟩)), (6, .pointer none), (11, .bool (true))] (by kernel_rfl) ?_
   refine EL.done (by kernel_rfl) ?_
   refine EQ.code ?_
   refine EW.condT (o := (.tmp 11)) (x := Cd66.r.r.l.r.l) (y := Cd66.r.r.l.r.r) (by kernel_rfl) (by kernel_rfl) ?_
   refine EW.seq (x := Cd66.r.r.l.r.l.l) (y := Cd66.r.r.l.r.l.r) (by kernel_rfl) ?_
   refine EW.region (id := 3) (ops := Cd66.r.r.l.r.l.l.ops) (by kernel_rfl) ?_
   refine EL.quick 1 [4, 12] [(4, .pointer (some ⟨a6, 0, none⟩)), (12, .agg #[.int .i64 0, .int .i64 0, .int .i32 0, .int .i64 0])] (by kernel_rfl) ?_
   refine EL.of (EO.storeBox (os' := Ass.box 96 a6 [.int .i64 0, .int .i64 0, .int .i32 0, .int .i64 0] :: Ass.box 91 a3 [.slice b0 a1.length a4, .slice a7 a5.length a8] :: Ass.deep 94 96 kS96 b0 a4 a1 :: Ass.own 3 (Kd.int .i64) a7 a8 a5 :: os) hS 0 rfl 96 0 (.agg #[.int .i64 0, .int .i64 0, .int .i32 0, .int .i64 0]) [.int .i64 0, .int .i64 0, .int .i32 0, .int .i64 0] (by kernel_rfl) (by kernel_rfl) (by kernel_rfl) (by kernel_rfl) (by kernel_rfl) (by kernel_rfl) rfl rfl ?_)
   intro w hS
   refine EL.quick 1 [4, 5] [(4, .pointer (some ⟨a6, 0, none⟩)), (5, .bool (false))] (by kernel_rfl) ?_
   refine EL.done (by kernel_rfl) ?_
   refine EQ.code ?_
   refine EW.ret (by kernel_rfl) ?_
   refine EQ.ret ?_
   simp only [Option.some.injEq, Prod.mk.injEq] at H
   obtain ⟨rfl, rfl⟩ := H
   exact EQ.leave2 hS (.cell 4 96) (.tmp 5) (.agg #[.int .i64 0, .int .i64 0, .int .i32 0, .int .i64 0]) (.bool (false)) (by kernel_rfl) ⟨0, 96, a6, [.int .i64 0, .int .i64 0, .int .i32 0, .int .i64 0], 0, 4, rfl, (by kernel_rfl), (by kernel_rfl)⟩ (oneTmp (by kernel_rfl)) ⟨_, rfl, rfl, (hS.re [3, 3, 3] [3] rfl (sub_self))⟩
  ·rw [if_neg c4] at H
   refine EW.skip (by kernel_rfl) ?_
   refine EQ.code ?_
   refine EW.seq (x := Cd64.r.r.r.l) (y := Cd64.r.r.r.r) (by kernel_rfl) ?_
   refine EW.region (id := 4) (ops := Cd64.r.r.r.l.ops) (by kernel_rfl) ?_
   refine EL.quick 3 [5, 6, 36] [(5, .int .i64 a0), (6, .int .i64 a2), (36, .pointer (some ⟨a3, 0, none⟩))] (by kernel_rfl) ?_
   refine EL.of (EO.Y (YO.loadBox hS 1 rfl 89 0 1 (.slice b0 a1.length a4) 37 (by kernel_rfl) (by kernel_rfl) (by kernel_rfl) (by kernel_rfl)) ?_)
   refine EL.quick 1 [6, 37, 38] [(6, .int .i64 a2), (37, .slice b0 a1.length a4), (38, .int .i64 a0)] (by kernel_rfl) ?_
   obtain ⟨c5, H⟩ := ite_in H
   obtain ⟨c6, H⟩ := ite_in H
   obtain ⟨b3, rfl⟩ := St.deep_some hS 2 rfl c5 c6
   refine EL.of (EO.Y (YO.idx 89 1 b3 a1.length a4 .i64 a0 39 (by kernel_rfl) (by kernel_rfl) (by kernel_rfl) (by kernel_rfl) c5 c6) ?_)
   refine EL.of (EO.openEl hS 2 b3 rfl a0 c5 c6 (fun c1 b4 => Ass.box 96 a6 [.int .i64 0, .int .i64 0, .int .i32 0, .int .i64 0] :: Ass.box 91 a3 [.slice (some b3) a1.length a4, .slice a7 a5.length a8] :: Ass.holed 94 96 kS96 (some b3) a4 a1 a0.toNat (c1, (a1.getD a0.toNat []).length, b4) :: Ass.own 3 (Kd.int .i64) a7 a8 a5 :: os) 94 40 (by kernel_rfl) (by kernel_rfl) (by kernel_rfl) (by kernel_rfl) (fun _ _ => rfl) ?_)
   intro c1 b4 hS
   refine EL.quick 1 [40, 41] [(40, .slice c1 (a1.getD a0.toNat []).length b4), (41, .int .i64 a2)] (by kernel_rfl) ?_
   obtain ⟨c7, H⟩ := ite_in H
   obtain ⟨c8, H⟩ := ite_in H
   obtain ⟨b2, rfl⟩ := St.rd_some hS (Rd.own 0 96 rfl) c7 c8
   refine EL.of (EO.Y (YO.idx 94 4 b2 (a1.getD a0.toNat []).length b4 .i64 a2 42 (by kernel_rfl) (by kernel_rfl) (by kernel_rfl) (by kernel_rfl) c7 c8) ?_)
   refine EL.quick 1 [4] [(4, .pointer (some ((b2.add (a2.toNat * 4)).add 0)))] (by kernel_rfl) ?_
   refine EL.done (by kernel_rfl) ?_
   refine EQ.code ?_
   refine EW.ret (by kernel_rfl) ?_
   refine EQ.leave (.pointer (some ((b2.add (a2.toNat * 4)).add 0))) (by kernel_rfl) ⟨_, rfl, ?_⟩
   refine EL.quick 1 [4, 6] [(4, .pointer (some ⟨a6, 0, none⟩)), (6, .pointer (some ((b2.add (a2.toNat * 4)).add 0)))] (by kernel_rfl) ?_
   refine EL.done (by kernel_rfl) ?_
   refine EQ.code ?_
   refine EW.seq (x := Cd66.r.r.l) (y := Cd66.r.r.r) (by kernel_rfl) ?_
   refine EW.seq (x := Cd66.r.r.l.l) (y := Cd66.r.r.l.r) (by kernel_rfl) ?_
   refine EW.region (id := 2) (ops := Cd66.r.r.l.l.ops) (by kernel_rfl) ?_
   refine EL.quick 2 [4, 6, 11] [(4, .pointer (some ⟨a6, 0, none⟩)), (6, .pointer (some ((b2.add (a2.toNat * 4)).add 0))), (11, .bool (false))] (by kernel_rfl) ?_
   refine EL.done (by kernel_rfl) ?_
   refine EQ.code ?_
   refine EW.condF (o := (.tmp 11)) (x := Cd66.r.r.l.r.l) (y := Cd66.r.r.l.r.r) (by kernel_rfl) (by kernel_rfl) ?_
   refine EW.skip (by kernel_rfl) ?_
   refine EQ.code ?_
   refine EW.seq (x := Cd66.r.r.r.l) (y := Cd66.r.r.r.r) (by kernel_rfl) ?_
   refine EW.region (id := 4) (ops := Cd66.r.r.r.l.ops) (by kernel_rfl) ?_
   refine EL.quick 2 [4, 14] [(4, .pointer (some ⟨a6, 0, none⟩)), (14, .pointer (some ((b2.add (a2.toNat * 4)).add 0)))] (by kernel_rfl) ?_
   refine EL.of (EO.Y (YO.loadEl hS kS96 b2 b4 (a1.getD a0.toNat []) (Rd.own 0 96 rfl) zS96 encS96 encS96_of a2 c7 c8 96 4 0 4 rfl (.agg #[.int .i64 (((a1.getD a0.toNat []).getD a2.toNat zS96).f0), .int .i64 (((a1.getD a0.toNat []).getD a2.toNat zS96).f1), .int .i32 (((a1.getD a0.toNat []).getD a2.toNat zS96).f2), .int .i64 (((a1.getD a0.toNat []).getD a2.toNat zS96).f3)]) 15 (by kernel_rfl) (by kernel_rfl) (by kernel_rfl) (by kernel_rfl)) ?_)
   refine EL.of (EO.storeBox (os' := Ass.own 96 kS96 (some b2) b4 (a1.getD a0.toNat []) :: Ass.box 96 a6 [.int .i64 (((a1.getD a0.toNat []).getD a2.toNat zS96).f0), .int .i64 (((a1.getD a0.toNat []).getD a2.toNat zS96).f1), .int .i32 (((a1.getD a0.toNat []).getD a2.toNat zS96).f2), .int .i64 (((a1.getD a0.toNat []).getD a2.toNat zS96).f3)] :: Ass.box 91 a3 [.slice (some b3) a1.length a4, .slice a7 a5.length a8] :: Ass.holed 94 96 kS96 (some b3) a4 a1 a0.toNat ((some b2), (a1.getD a0.toNat []).length, b4) :: Ass.own 3 (Kd.int .i64) a7 a8 a5 :: os) hS 1 rfl 96 0 (.agg #[.int .i64 (((a1.getD a0.toNat []).getD a2.toNat zS96).f0), .int .i64 (((a1.getD a0.toNat []).getD a2.toNat zS96).f1), .int .i32 (((a1.getD a0.toNat []).getD a2.toNat zS96).f2), .int .i64 (((a1.getD a0.toNat []).getD a2.toNat zS96).f3)]) [.int .i64 (((a1.getD a0.toNat []).getD a2.toNat zS96).f0), .int .i64 (((a1.getD a0.toNat []).getD a2.toNat zS96).f1), .int .i32 (((a1.getD a0.toNat []).getD a2.toNat zS96).f2), .int .i64 (((a1.getD a0.toNat []).getD a2.toNat zS96).f3)] (by kernel_rfl) (by kernel_rfl) (by kernel_rfl) (by kernel_rfl) (by kernel_rfl) (by kernel_rfl) rfl rfl ?_)
   intro w hS
   refine EL.quick 1 [4, 5] [(4, .pointer (some ⟨a6, 0, none⟩)), (5, .bool (true))] (by kernel_rfl) ?_
   refine EL.done (by kernel_rfl) ?_
   refine EQ.code ?_
   refine EW.ret (by kernel_rfl) ?_
   have hS := St.as (os' := Ass.box 96 a6 [.int .i64 (((a1.getD a0.toNat []).getD a2.toNat zS96).f0), .int .i64 (((a1.getD a0.toNat []).getD a2.toNat zS96).f1), .int .i32 (((a1.getD a0.toNat []).getD a2.toNat zS96).f2), .int .i64 (((a1.getD a0.toNat []).getD a2.toNat zS96).f3)] :: Ass.box 91 a3 [.slice (some b3) a1.length a4, .slice a7 a5.length a8] :: Ass.deep 94 96 kS96 (some b3) a4 a1 :: Ass.own 3 (Kd.int .i64) a7 a8 a5 :: os) (St.close hS 0 2 rfl rfl rfl a1 (set_getD _ _)) rfl
   simp only [Option.some.injEq, Prod.mk.injEq] at H
   obtain ⟨rfl, rfl⟩ := H
   exact EQ.leave2 hS (.cell 4 96) (.tmp 5) (.agg #[.int .i64 (((a1.getD a0.toNat []).getD a2.toNat zS96).f0), .int .i64 (((a1.getD a0.toNat []).getD a2.toNat zS96).f1), .int .i32 (((a1.getD a0.toNat []).getD a2.toNat zS96).f2), .int .i64 (((a1.getD a0.toNat []).getD a2.toNat zS96).f3)]) (.bool (true)) (by kernel_rfl) ⟨0, 96, a6, [.int .i64 (((a1.getD a0.toNat []).getD a2.toNat zS96).f0), .int .i64 (((a1.getD a0.toNat []).getD a2.toNat zS96).f1), .int .i32 (((a1.getD a0.toNat []).getD a2.toNat zS96).f2), .int .i64 (((a1.getD a0.toNat []).getD a2.toNat zS96).f3)], 0, 4, rfl, (by kernel_rfl), (by kernel_rfl)⟩ (oneTmp (by kernel_rfl)) ⟨_, rfl, rfl, (hS.re [3, 3, 3] [3] rfl (sub_self))⟩

/-! ### confidant/park.done: function 45 -/
def park_done.f (K : Nat) (a3 : List (List S96)) (a4 : List Int) (a1 : Int) : Option Bool := b2 (future_Futures_Get.f K a3 a4 a1) fun (a0 : S96) (a6 : Bool) => (if a6 = true then (some (!(decide (a0.f1 = 0)))) else (some false))
set_option maxRecDepth 100000 in
theorem park_done.calls {K : Nat} {a3 : List (List S96)} {a4 : List Int} {a1 : Int} {a2 : Nat} {a7 : Option Addr} {a9 : Nat} {a8 : Option Addr} {b0 : Nat} {b3 : Bool} {B w : World} {os : List Ass} {rs : List Ro} (H : park_done.f K a3 a4 a1 = some b3) (hS : St B w (Ass.box 91 a2 [.slice a7 a3.length a9, .slice a8 a4.length b0] :: Ass.deep 94 96 kS96 a7 a9 a3 :: Ass.own 3 (Kd.int .i64) a8 b0 a4 :: os) (rs)) :
  Calls Try.prog 45 [.pointer (some ⟨a2, 0, none⟩), .int .i32 a1].toArray w (fun en w' => ∃ v, en = .returned v ∧ v = .bool (b3) ∧ St B w' (Ass.box 91 a2 [.slice a7 a3.length a9, .slice a8 a4.length b0] :: Ass.deep 94 96 kS96 a7 a9 a3 :: Ass.own 3 (Kd.int .i64) a8 b0 a4 :: os) (rs)) := by
 unfold park_done.f at H
 refine calls_of_EW (args := [.pointer (some ⟨a2, 0, none⟩), .int .i32 a1]) (c := Cd45) 21 Try.func45 (by kernel_rfl) (by kernel_rfl) (by kernel_rfl) ?_
 refine EW.seq (x := Cd45.l) (y := Cd45.r) (by kernel_rfl) ?_
 refine EW.region (id := 0) (ops := Cd45.l.ops) (by kernel_rfl) ?_
 refine EL.quick 1 [0, 1] [(0, .pointer (some ⟨a2, 0, none⟩)), (1, .int .i32 a1)] (by kernel_rfl) ?_
 refine EL.done (by kernel_rfl) ?_
 refine EQ.code ?_
 refine EW.seq (x := Cd45.r.l) (y := Cd45.r.r) (by kernel_rfl) ?_
 refine EW.seq (x := Cd45.r.l.l) (y := Cd45.r.l.r) (by kernel_rfl) ?_
 refine EW.region (id := 1) (ops := Cd45.r.l.l.ops) (by kernel_rfl) ?_
 refine EL.quick 2 [0, 1, 8] [(0, .pointer (some ⟨a2, 0, none⟩)), (1, .int .i32 a1), (8, .bool (false))] (by kernel_rfl) ?_
 refine EL.done (by kernel_rfl) ?_
 refine EQ.code ?_
 refine EW.condF (o := (.tmp 8)) (x := Cd45.r.l.r.l) (y := Cd45.r.l.r.r) (by kernel_rfl) (by kernel_rfl) ?_
 refine EW.skip (by kernel_rfl) ?_
 refine EQ.code ?_
 refine EW.seq (x := Cd45.r.r.l) (y := Cd45.r.r.r) (by kernel_rfl) ?_
 refine EW.region (id := 3) (ops := Cd45.r.r.l.ops) (by kernel_rfl) ?_
 refine EL.quick 2 [10, 11] [(10, .pointer (some ⟨a2, 0, none⟩)), (11, .int .i32 a1)] (by kernel_rfl) ?_
 obtain ⟨a0, a6, b4, H⟩ := b2_out H
 refine EL.of (EO.callD 66 [.pointer (some ⟨a2, 0, none⟩), .int .i32 a1] _ 12 (by kernel_rfl) (by kernel_rfl) (by kernel_rfl) (future_Futures_Get.calls b4 hS) ?_)
 rintro v w ⟨rfl, hS⟩
 refine EL.quick 3 [13, 14] [(13, .agg #[.int .i64 a0.f0, .int .i64 a0.f1, .int .i32 a0.f2, .int .i64 a0.f3]), (14, .bool (a6))] (by kernel_rfl) ?_
 refine EL.of (EO.alloc hS 96 (.agg #[.int .i64 0, .int .i64 0, .int .i32 0, .int .i64 0]) [.int .i64 0, .int .i64 0, .int .i32 0, .int .i64 0] 5 (by kernel_rfl) (by kernel_rfl) (by kernel_rfl) (by kernel_rfl) (by first | rfl | kernel_rfl) ?_)
 intro a5 w hS
 refine EL.of (EO.storeBox (os' := Ass.box 96 a5 [.int .i64 a0.f0, .int .i64 a0.f1, .int .i32 a0.f2, .int .i64 a0.f3] :: Ass.box 91 a2 [.slice a7 a3.length a9, .slice a8 a4.length b0] :: Ass.deep 94 96 kS96 a7 a9 a3 :: Ass.own 3 (Kd.int .i64) a8 b0 a4 :: os) hS 0 rfl 96 0 (.agg #[.int .i64 a0.f0, .int .i64 a0.f1, .int .i32 a0.f2, .int .i64 a0.f3]) [.int .i64 a0.f0, .int .i64 a0.f1, .int .i32 a0.f2, .int .i64 a0.f3] (by kernel_rfl) (by kernel_rfl) (by kernel_rfl) (by kernel_rfl) (by kernel_rfl) (by kernel_rfl) rfl rfl ?_)
 intro w hS
 refine EL.quick 1 [5, 6] [(5, .pointer (some ⟨a5, 0, none⟩)), (6, .bool (a6))] (by kernel_rfl) ?_
 refine EL.done (by kernel_rfl) ?_
 refine EQ.code ?_
 refine EW.seq (x := Cd45.r.r.r.l) (y := Cd45.r.r.r.r) (by kernel_rfl) ?_
 refine EW.region (id := 4) (ops := Cd45.r.r.r.l.ops) (by kernel_rfl) ?_
 refine EL.quick 2 [5, 16] [(5, .pointer (some ⟨a5, 0, none⟩)), (16, .bool (a6))] (by kernel_rfl) ?_
 by_cases b1 : a6 = true
 ·rw [if_pos b1] at H
  refine EL.keep [5, 16] [(5, .pointer (some ⟨a5, 0, none⟩)), (16, .bool (a6))] (by kernel_rfl) ?_
  refine EL.as' [(5, .pointer (some ⟨a5, 0, none⟩)), (16, .bool (true))] (by simp only [b1, Bool.not_true, Bool.not_false]) ?_
  refine EL.quick 1 [16, 17] [(16, .bool (true)), (17, .pointer (some ⟨a5, 1, none⟩))] (by kernel_rfl) ?_
  refine EL.of (EO.Y (YO.loadBox hS 0 rfl 3 1 1 (.int .i64 a0.f1) 18 (by kernel_rfl) (by kernel_rfl) (by kernel_rfl) (by kernel_rfl)) ?_)
  refine EL.quick 3 [4] [(4, .bool (!(decide (a0.f1 = 0))))] (by kernel_rfl) ?_
  refine EL.done (by kernel_rfl) ?_
  refine EQ.code ?_
  refine EW.ret (by kernel_rfl) ?_
  obtain rfl := Option.some.inj H
  exact EQ.leave (.bool (!(decide (a0.f1 = 0)))) (by kernel_rfl) ⟨_, rfl, rfl, (hS.re [3, 3, 3] [3] rfl (sub_self))⟩
 ·rw [if_neg b1] at H
  refine EL.keep [5, 16] [(5, .pointer (some ⟨a5, 0, none⟩)), (16, .bool (a6))] (by kernel_rfl) ?_
  refine EL.as' [(5, .pointer (some ⟨a5, 0, none⟩)), (16, .bool (false))] (by simp only [(Bool.eq_false_iff.2 b1), Bool.not_true, Bool.not_false]) ?_
  refine EL.quick 5 [4] [(4, .bool (false))] (by kernel_rfl) ?_
  refine EL.done (by kernel_rfl) ?_
  refine EQ.code ?_
  refine EW.ret (by kernel_rfl) ?_
  obtain rfl := Option.some.inj H
  exact EQ.leave (.bool (false)) (by kernel_rfl) ⟨_, rfl, rfl, (hS.re [3, 3, 3] [3] rfl (sub_self))⟩

/-! ### (*confidant/park.Park).Look: function 16 -/
def park_Park_Look.l0 (K : Nat) (a0 : List S60) (a6 : List (List S96)) (a7 : List Int) (e4 : (List S60) → (List S36) → (List S36) → Int → Option (List S60 × List S36 × List S36 × Int)) : Nat → (List S60) → (List S36) → (List S36) → Int → Int → Option (List S60 × List S36 × List S36 × Int)
 | 0, _, _, _, _, _ => none
 | n + 1, a8, a9, b0, b2, a1 => if a1 < (a0.length : Int) then (lt (fun (d3 : List S60) (d4 : List S36) (d5 : List S36) (e1 : Int) => (park_Park_Look.l0 K a0 a6 a7 e4 n d3 d4 d5 e1 (IntKind.i64.wrap (a1 + 1)))) fun i6 => (if 0 ≤ a1 then (if b2 = 0 then (lt ([(⟨(a0.getD a1.toNat zS60).f0.f0, (a0.getD a1.toNat zS60).f0.f1, (a0.getD a1.toNat zS60).f0.f2, (a0.getD a1.toNat zS60).f0.f3, (⟨(a0.getD a1.toNat zS60).f0.f4.f0, (a0.getD a1.toNat zS60).f0.f4.f1, (a0.getD a1.toNat zS60).f0.f4.f2, (a0.getD a1.toNat zS60).f0.f4.f3⟩ : S33), (a0.getD a1.toNat zS60).f0.f5, (a0.getD a1.toNat zS60).f0.f6, (a0.getD a1.toNat zS60).f0.f7, (a0.getD a1.toNat zS60).f0.f8⟩ : S36)] : List S36) fun g4 => (if (b0.length + g4.length) * 96 ≤ 140737488355328 then (lt (b0 ++ g4) fun e5 => (i6 a8 a9 e5 b2)) else none)) else (b1 (park_done.f K a6 a7 ((a0.getD a1.toNat zS60).f1)) fun (j6 : Bool) => (if j6 = true then (lt ([(⟨(a0.getD a1.toNat zS60).f0.f0, (a0.getD a1.toNat zS60).f0.f1, (a0.getD a1.toNat zS60).f0.f2, (a0.getD a1.toNat zS60).f0.f3, (⟨(a0.getD a1.toNat zS60).f0.f4.f0, (a0.getD a1.toNat zS60).f0.f4.f1, (a0.getD a1.toNat zS60).f0.f4.f2, (a0.getD a1.toNat zS60).f0.f4.f3⟩ : S33), (a0.getD a1.toNat zS60).f0.f5, (a0.getD a1.toNat zS60).f0.f6, (a0.getD a1.toNat zS60).f0.f7, (a0.getD a1.toNat zS60).f0.f8⟩ : S36)] : List S36) fun g5 => (if (a9.length + g5.length) * 96 ≤ 140737488355328 then (lt (a9 ++ g5) fun e6 => (i6 a8 e6 b0 (IntKind.i64.wrap (b2 - 1)))) else none)) else (lt ([(⟨(⟨(a0.getD a1.toNat zS60).f0.f0, (a0.getD a1.toNat zS60).f0.f1, (a0.getD a1.toNat zS60).f0.f2, (a0.getD a1.toNat zS60).f0.f3, (⟨(a0.getD a1.toNat zS60).f0.f4.f0, (a0.getD a1.toNat zS60).f0.f4.f1, (a0.getD a1.toNat zS60).f0.f4.f2, (a0.getD a1.toNat zS60).f0.f4.f3⟩ : S33), (a0.getD a1.toNat zS60).f0.f5, (a0.getD a1.toNat zS60).f0.f6, (a0.getD a1.toNat zS60).f0.f7, (a0.getD a1.toNat zS60).f0.f8⟩ : S36), (a0.getD a1.toNat zS60).f1⟩ : S60)] : List S60) fun g6 => (if (a8.length + g6.length) * 104 ≤ 140737488355328 then (lt (a8 ++ g6) fun e7 => (i6 e7 a9 b0 (IntKind.i64.wrap (b2 - 1)))) else none))))) else none)) else (e4 a8 a9 b0 b2)
def park_Park_Look.f (K : Nat) (a0 : List S60) (a6 : List (List S96)) (a7 : List Int) (c6 : Int) : Option (List S60 × List S36 × List S36 × Int) := if (([] : List S60).length + a0.length) * 104 ≤ 140737488355328 then (lt (([] : List S60) ++ a0) fun i9 => (lt ([] : List S60) fun d2 => (lt (fun (c7 : List S60) (c8 : List S36) (c9 : List S36) (e0 : Int) => (some (c7, c8, c9, e0))) fun e4 => (park_Park_Look.l0 K a0 a6 a7 e4 K d2 ([] : List S36) ([] : List S36) (mx c6 0) 0)))) else none
set_option maxRecDepth 100000 in
theorem park_Park_Look.calls {K : Nat} {a0 : List S60} {a6 : List (List S96)} {a7 : List Int} {c6 : Int} {a4 : Nat} {b7 : Option Addr} {a3 : Nat} {a5 : Nat} {b3 : Option Addr} {b5 : Nat} {b4 : Option Addr} {b6 : Nat} {g7 : List S60} {g8 : List S36} {g9 : List S36} {i7 : Int} {B w : World} {os : List Ass} {rs : List Ro} (H : park_Park_Look.f K a0 a6 a7 c6 = some (g7, g8, g9, i7)) (hS : St B w (Ass.box 93 a4 [.slice b7 a0.length a3] :: Ass.own 60 kS60 b7 a3 a0 :: Ass.box 91 a5 [.slice b3 a6.length b5, .slice b4 a7.length b6] :: Ass.deep 94 96 kS96 b3 b5 a6 :: Ass.own 3 (Kd.int .i64) b4 b6 a7 :: os) (rs)) :
  Calls Try.prog 16 [.pointer (some ⟨a4, 0, none⟩), .pointer (some ⟨a5, 0, none⟩), .int .i64 c6].toArray w (fun en w' => ∃ v, en = .returned v ∧ ∃ j7 : Option Addr, ∃ m0 : Nat, ∃ j8 : Option Addr, ∃ m1 : Nat, ∃ j9 : Option Addr, ∃ m2 : Nat, v = .tuple #[.slice j8 g8.length m1, .slice j9 g9.length m2, .int .i64 i7] ∧ St B w' (Ass.box 93 a4 [.slice j7 g7.length m0] :: Ass.own 60 kS60 b7 a3 a0 :: Ass.box 91 a5 [.slice b3 a6.length b5, .slice b4 a7.length b6] :: Ass.deep 94 96 kS96 b3 b5 a6 :: Ass.own 3 (Kd.int .i64) b4 b6 a7 :: Ass.own 60 kS60 j7 m0 g7 :: Ass.own 36 kS36 j8 m1 g8 :: Ass.own 36 kS36 j9 m2 g9 :: os) (rs)) := by
 unfold park_Park_Look.f at H
 refine calls_of_EW (args := [.pointer (some ⟨a4, 0, none⟩), .pointer (some ⟨a5, 0, none⟩), .int .i64 c6]) (c := Cd16) 59 Try.func16 (by kernel_rfl) (by kernel_rfl) (by kernel_rfl) ?_
 refine EW.seq (x := Cd16.l) (y := Cd16.r) (by kernel_rfl) ?_
 refine EW.region (id := 0) (ops := Cd16.l.ops) (by kernel_rfl) ?_
 refine EL.quick 3 [0, 1, 2, 6, 7] [(0, .pointer (some ⟨a4, 0, none⟩)), (1, .pointer (some ⟨a5, 0, none⟩)), (2, .int .i64 c6), (6, .slice none ([] : List S36).length 0), (7, .slice none ([] : List S36).length 0)] (by kernel_rfl) ?_
 refine EL.done (by kernel_rfl) ?_
 refine EQ.code ?_
 refine EW.seq (x := Cd16.r.l) (y := Cd16.r.r) (by kernel_rfl) ?_
 refine EW.region (id := 1) (ops := Cd16.r.l.ops) (by kernel_rfl) ?_
 refine EL.quick 3 [0, 1, 6, 7, 8] [(0, .pointer (some ⟨a4, 0, none⟩)), (1, .pointer (some ⟨a5, 0, none⟩)), (6, .slice none ([] : List S36).length 0), (7, .slice none ([] : List S36).length 0), (8, .int .i64 (mx c6 0))] (by kernel_rfl) ?_
 refine EL.done (by kernel_rfl) ?_
 refine EQ.code ?_
 refine EW.seq (x := Cd16.r.r.l) (y := Cd16.r.r.r) (by kernel_rfl) ?_
 refine EW.region (id := 2) (ops := Cd16.r.r.l.ops) (by kernel_rfl) ?_
 refine EL.quick 3 [0, 1, 6, 7, 8, 16] [(0, .pointer (some ⟨a4, 0, none⟩)), (1, .pointer (some ⟨a5, 0, none⟩)), (6, .slice none ([] : List S36).length 0), (7, .slice none ([] : List S36).length 0), (8, .int .i64 (mx c6 0)), (16, .pointer (some ⟨a4, 0, none⟩))] (by kernel_rfl) ?_
 refine EL.of (EO.Y (YO.loadBox hS 0 rfl 58 0 1 (.slice b7 a0.length a3) 17 (by kernel_rfl) (by kernel_rfl) (by kernel_rfl) (by kernel_rfl)) ?_)
 have hS := St.nilO hS 60 kS60
 obtain ⟨n0, H⟩ := ite_in H
 obtain ⟨i9, n7, H⟩ := lt_out H
 refine EL.of (EO.append hS 58 58 60 104 0 kS60 none 0 ([] : List S60) rfl b7 a3 a0 (Rd.own 2 60 rfl) i9 n7 (fun j0 i8 => Ass.own 60 kS60 j0 i8 i9 :: Ass.box 93 a4 [.slice b7 a0.length a3] :: Ass.own 60 kS60 b7 a3 a0 :: Ass.box 91 a5 [.slice b3 a6.length b5, .slice b4 a7.length b6] :: Ass.deep 94 96 kS96 b3 b5 a6 :: Ass.own 3 (Kd.int .i64) b4 b6 a7 :: os) 18 (by kernel_rfl) (by kernel_rfl) (by kernel_rfl) (by kernel_rfl) n0 (fun _ _ => rfl) ?_)
 intro j0 i8 w hS
 obtain ⟨d2, n8, H⟩ := lt_out H
 refine EL.of (EO.sliceOwn hS kS60 60 j0 i8 i9 0 rfl none (some (.int .i64 0)) none 0 0 i8 d2 (by rw [n8]; exact (slice_no _)) (fun e2 e3 => Ass.own 60 kS60 e2 e3 d2 :: Ass.box 93 a4 [.slice b7 a0.length a3] :: Ass.own 60 kS60 b7 a3 a0 :: Ass.box 91 a5 [.slice b3 a6.length b5, .slice b4 a7.length b6] :: Ass.deep 94 96 kS96 b3 b5 a6 :: Ass.own 3 (Kd.int .i64) b4 b6 a7 :: os) 58 19 (by kernel_rfl) (by kernel_rfl) (by kernel_rfl) (by kernel_rfl) (rfl) (rfl) ⟨rfl, fun h => by first | rfl | cases h⟩ (by omega) (by omega) (.inl rfl) (fun _ _ => rfl) ?_)
 intro e2 e3 hS
 refine EL.quick 1 [0, 1, 6, 7, 8, 9] [(0, .pointer (some ⟨a4, 0, none⟩)), (1, .pointer (some ⟨a5, 0, none⟩)), (6, .slice none ([] : List S36).length 0), (7, .slice none ([] : List S36).length 0), (8, .int .i64 (mx c6 0)), (9, .slice e2 d2.length e3)] (by kernel_rfl) ?_
 refine EL.done (by kernel_rfl) ?_
 refine EQ.code ?_
 obtain ⟨e4, n5, H⟩ := lt_out H
 refine EW.cut (x := Cd16.r.r.r.l) (y := Cd16.r.r.r.r) (fun a w => ∃ c7 : List S60, ∃ c8 : List S36, ∃ c9 : List S36, ∃ e0 : Int, ∃ d0 : Option Addr, ∃ d1 : Nat, ∃ d6 : Option Addr, ∃ d8 : Nat, ∃ d7 : Option Addr, ∃ d9 : Nat, Sat 59 [(0, .pointer (some ⟨a4, 0, none⟩)), (6, .slice d6 c8.length d8), (7, .slice d7 c9.length d9), (8, .int .i64 e0), (9, .slice d0 c7.length d1)] a ∧ St B w (Ass.own 60 kS60 d0 d1 c7 :: Ass.box 93 a4 [.slice b7 a0.length a3] :: Ass.own 60 kS60 b7 a3 a0 :: Ass.box 91 a5 [.slice b3 a6.length b5, .slice b4 a7.length b6] :: Ass.deep 94 96 kS96 b3 b5 a6 :: Ass.own 3 (Kd.int .i64) b4 b6 a7 :: Ass.own 36 kS36 d6 d8 c8 :: Ass.own 36 kS36 d7 d9 c9 :: os) (rs) ∧ e4 c7 c8 c9 e0 = some (g7, g8, g9, i7)) (by kernel_rfl) ?_ (fun a w hI => ?_)
 ·refine EW.seq (x := Cd16.r.r.r.l.l) (y := Cd16.r.r.r.l.r) (by kernel_rfl) ?_
  refine EW.region (id := 3) (ops := Cd16.r.r.r.l.l.ops) (by kernel_rfl) ?_
  refine EL.quick 3 [0, 1, 6, 7, 8, 9, 22] [(0, .pointer (some ⟨a4, 0, none⟩)), (1, .pointer (some ⟨a5, 0, none⟩)), (6, .slice none ([] : List S36).length 0), (7, .slice none ([] : List S36).length 0), (8, .int .i64 (mx c6 0)), (9, .slice e2 d2.length e3), (22, .pointer (some ⟨a4, 0, none⟩))] (by kernel_rfl) ?_
  refine EL.of (EO.Y (YO.loadBox hS 1 rfl 58 0 1 (.slice b7 a0.length a3) 23 (by kernel_rfl) (by kernel_rfl) (by kernel_rfl) (by kernel_rfl)) ?_)
  refine EL.quick 2 [0, 1, 6, 7, 8, 9, 23, 24, 25] [(0, .pointer (some ⟨a4, 0, none⟩)), (1, .pointer (some ⟨a5, 0, none⟩)), (6, .slice none ([] : List S36).length 0), (7, .slice none ([] : List S36).length 0), (8, .int .i64 (mx c6 0)), (9, .slice e2 d2.length e3), (23, .slice b7 a0.length a3), (24, .int .i64 (a0.length : Int)), (25, .int .i64 0)] (by kernel_rfl) ?_
  refine EL.done (by kernel_rfl) ?_
  refine EQ.code ?_
  refine EW.block (x := Cd16.r.r.r.l.r.l) (id := 0) (by kernel_rfl) ?_
  have hS := St.nilO hS 36 kS36
  have hS := St.nilO hS 36 kS36
  refine EW.loop (x := Cd16.r.r.r.l.r.l.l) (fun n a w => ∃ a8 : List S60, ∃ a9 : List S36, ∃ b0 : List S36, ∃ b2 : Int, ∃ a1 : Int, ∃ b9 : Option Addr, ∃ c2 : Nat, ∃ c0 : Option Addr, ∃ c3 : Nat, ∃ c1 : Option Addr, ∃ c4 : Nat, Sat 59 [(0, .pointer (some ⟨a4, 0, none⟩)), (1, .pointer (some ⟨a5, 0, none⟩)), (6, .slice c0 a9.length c3), (7, .slice c1 b0.length c4), (8, .int .i64 b2), (9, .slice b9 a8.length c2), (23, .slice b7 a0.length a3), (24, .int .i64 (a0.length : Int)), (25, .int .i64 a1)] a ∧ St B w (Ass.own 60 kS60 b9 c2 a8 :: Ass.box 93 a4 [.slice b7 a0.length a3] :: Ass.own 60 kS60 b7 a3 a0 :: Ass.box 91 a5 [.slice b3 a6.length b5, .slice b4 a7.length b6] :: Ass.deep 94 96 kS96 b3 b5 a6 :: Ass.own 3 (Kd.int .i64) b4 b6 a7 :: Ass.own 36 kS36 c0 c3 a9 :: Ass.own 36 kS36 c1 c4 b0 :: os) (rs) ∧ park_Park_Look.l0 K a0 a6 a7 e4 n a8 a9 b0 b2 a1 = some (g7, g8, g9, i7)) K (by kernel_rfl) ?_ (fun n a w hI => ?_)
  ·refine EQ.keep [0, 1, 6, 7, 8, 9, 23, 24, 25] [(0, .pointer (some ⟨a4, 0, none⟩)), (1, .pointer (some ⟨a5, 0, none⟩)), (6, .slice none ([] : List S36).length 0), (7, .slice none ([] : List S36).length 0), (8, .int .i64 (mx c6 0)), (9, .slice e2 d2.length e3), (23, .slice b7 a0.length a3), (24, .int .i64 (a0.length : Int)), (25, .int .i64 0)] (by kernel_rfl) ?_
   exact fun a ha => ⟨d2, ([] : List S36), ([] : List S36), mx c6 0, 0, e2, e3, none, 0, none, 0, ha, (hS.re [0, 1, 7, 7, 7, 7, 7, 7] [] rfl (sub_self)), H⟩
  ·obtain ⟨a8, a9, b0, b2, a1, b9, c2, c0, c3, c1, c4, ha, hS, H⟩ := hI
   obtain _ | n := n
   ·simp [park_Park_Look.l0] at H
   rw [park_Park_Look.l0.eq_2] at H
   refine EW.at ?_ a ha
   clear ha a
   refine EW.seq (x := Cd16.r.r.r.l.r.l.l.l) (y := Cd16.r.r.r.l.r.l.l.r) (by kernel_rfl) ?_
   refine EW.region (id := 4) (ops := Cd16.r.r.r.l.r.l.l.l.ops) (by kernel_rfl) ?_
   refine EL.quick 1 [0, 1, 6, 7, 8, 9, 23, 24, 25, 26] [(0, .pointer (some ⟨a4, 0, none⟩)), (1, .pointer (some ⟨a5, 0, none⟩)), (6, .slice c0 a9.length c3), (7, .slice c1 b0.length c4), (8, .int .i64 b2), (9, .slice b9 a8.length c2), (23, .slice b7 a0.length a3), (24, .int .i64 (a0.length : Int)), (25, .int .i64 a1), (26, .bool (decide (a1 < (a0.length : Int))))] (by kernel_rfl) ?_
   refine EL.done (by kernel_rfl) ?_
   refine EQ.code ?_
   refine EW.seq (x := Cd16.r.r.r.l.r.l.l.r.l) (y := Cd16.r.r.r.l.r.l.l.r.r) (by kernel_rfl) ?_
   refine EW.condP (o := (.tmp 26)) (x := Cd16.r.r.r.l.r.l.l.r.l.l) (y := Cd16.r.r.r.l.r.l.l.r.l.r) (a1 < (a0.length : Int)) (by kernel_rfl) (by kernel_rfl) (fun g3 => ?_) (fun g3 => ?_)
   ·rw [if_pos g3] at H
    refine EW.skip (by kernel_rfl) ?_
    refine EQ.code ?_
    obtain ⟨i6, n6, H⟩ := lt_out H
    refine EW.cut (x := Cd16.r.r.r.l.r.l.l.r.r.l) (y := Cd16.r.r.r.l.r.l.l.r.r.r) (fun a w => ∃ d3 : List S60, ∃ d4 : List S36, ∃ d5 : List S36, ∃ e1 : Int, ∃ m3 : Nat, ∃ j1 : Option Addr, ∃ j2 : Nat, ∃ e8 : Option Addr, ∃ g0 : Nat, ∃ e9 : Option Addr, ∃ g1 : Nat, ∃ f9 : Option Addr, ∃ g2 : Nat, Sat 59 [(0, .pointer (some ⟨a4, 0, none⟩)), (1, .pointer (some ⟨a5, 0, none⟩)), (6, .slice e9 d4.length g1), (7, .slice f9 d5.length g2), (8, .int .i64 e1), (9, .slice e8 d3.length g0), (23, .slice b7 a0.length a3), (24, .int .i64 (a0.length : Int)), (25, .int .i64 a1)] a ∧ St B w (Ass.box 60 m3 [.int .i32 ((a0.getD a1.toNat zS60).f0.f0), .int .i64 ((a0.getD a1.toNat zS60).f0.f1), .int .i64 ((a0.getD a1.toNat zS60).f0.f2), .slice j1 ((a0.getD a1.toNat zS60).f0.f3).length j2, .int .i32 ((a0.getD a1.toNat zS60).f0.f4.f0), .int .i32 ((a0.getD a1.toNat zS60).f0.f4.f1), .int .i32 ((a0.getD a1.toNat zS60).f0.f4.f2), .int .i32 ((a0.getD a1.toNat zS60).f0.f4.f3), .int .i64 ((a0.getD a1.toNat zS60).f0.f5), .int .i64 ((a0.getD a1.toNat zS60).f0.f6), .int .u32 ((a0.getD a1.toNat zS60).f0.f7), .int .i64 ((a0.getD a1.toNat zS60).f0.f8), .int .i32 ((a0.getD a1.toNat zS60).f1)] :: Ass.own 60 kS60 e8 g0 d3 :: Ass.box 93 a4 [.slice b7 a0.length a3] :: Ass.own 60 kS60 b7 a3 a0 :: Ass.box 91 a5 [.slice b3 a6.length b5, .slice b4 a7.length b6] :: Ass.deep 94 96 kS96 b3 b5 a6 :: Ass.own 3 (Kd.int .i64) b4 b6 a7 :: Ass.own 36 kS36 e9 g1 d4 :: Ass.own 36 kS36 f9 g2 d5 :: os) (Ro.sl (Kd.int .i32) j1 j2 ((a0.getD a1.toNat zS60).f0.f3) :: rs) ∧ i6 d3 d4 d5 e1 = some (g7, g8, g9, i7)) (by kernel_rfl) ?_ (fun a w hI => ?_)
    ·refine EW.block (x := Cd16.r.r.r.l.r.l.l.r.r.l.l) (id := 1) (by kernel_rfl) ?_
     refine EW.seq (x := Cd16.r.r.r.l.r.l.l.r.r.l.l.l) (y := Cd16.r.r.r.l.r.l.l.r.r.l.l.r) (by kernel_rfl) ?_
     refine EW.region (id := 5) (ops := Cd16.r.r.r.l.r.l.l.r.r.l.l.l.ops) (by kernel_rfl) ?_
     obtain ⟨j3, H⟩ := ite_in H
     obtain ⟨b8, rfl⟩ := St.rd_some hS (Rd.own 2 60 rfl) j3 g3
     refine EL.of (EO.Y (YO.idx 58 13 b8 a0.length a3 .i64 a1 27 (by kernel_rfl) (by kernel_rfl) (by kernel_rfl) (by kernel_rfl) j3 g3) ?_)
     refine EL.of (EO.loadPt hS kS60 b8 a3 a0 (Rd.own 2 60 rfl) zS60 cellsS60 factsS60 partsS60 a1 j3 g3 60 13 0 13 rfl (fun a2 => .agg #[.int .i32 ((a0.getD a1.toNat zS60).f0.f0), .int .i64 ((a0.getD a1.toNat zS60).f0.f1), .int .i64 ((a0.getD a1.toNat zS60).f0.f2), .slice a2.1 ((a0.getD a1.toNat zS60).f0.f3).length a2.2, .int .i32 ((a0.getD a1.toNat zS60).f0.f4.f0), .int .i32 ((a0.getD a1.toNat zS60).f0.f4.f1), .int .i32 ((a0.getD a1.toNat zS60).f0.f4.f2), .int .i32 ((a0.getD a1.toNat zS60).f0.f4.f3), .int .i64 ((a0.getD a1.toNat zS60).f0.f5), .int .i64 ((a0.getD a1.toNat zS60).f0.f6), .int .u32 ((a0.getD a1.toNat zS60).f0.f7), .int .i64 ((a0.getD a1.toNat zS60).f0.f8), .int .i32 ((a0.getD a1.toNat zS60).f1)]) 28 (by kernel_rfl) (by kernel_rfl) (by kernel_rfl) (fun a2 => (by kernel_rfl)) ?_)
     intro a2 hS
     refine EL.of (EO.alloc hS 60 (.agg #[.int .i32 0, .int .i64 0, .int .i64 0, .slice none ([] : List Int).length 0, .int .i32 0, .int .i32 0, .int .i32 0, .int .i32 0, .int .i64 0, .int .i64 0, .int .u32 0, .int .i64 0, .int .i32 0]) [.int .i32 0, .int .i64 0, .int .i64 0, .slice none ([] : List Int).length 0, .int .i32 0, .int .i32 0, .int .i32 0, .int .i32 0, .int .i64 0, .int .i64 0, .int .u32 0, .int .i64 0, .int .i32 0] 11 (by kernel_rfl) (by kernel_rfl) (by kernel_rfl) (by kernel_rfl) (by first | rfl | kernel_rfl) ?_)
     intro c5 w hS
     refine EL.of (EO.storeBox (os' := Ass.box 60 c5 [.int .i32 ((a0.getD a1.toNat zS60).f0.f0), .int .i64 ((a0.getD a1.toNat zS60).f0.f1), .int .i64 ((a0.getD a1.toNat zS60).f0.f2), .slice a2.1 ((a0.getD a1.toNat zS60).f0.f3).length a2.2, .int .i32 ((a0.getD a1.toNat zS60).f0.f4.f0), .int .i32 ((a0.getD a1.toNat zS60).f0.f4.f1), .int .i32 ((a0.getD a1.toNat zS60).f0.f4.f2), .int .i32 ((a0.getD a1.toNat zS60).f0.f4.f3), .int .i64 ((a0.getD a1.toNat zS60).f0.f5), .int .i64 ((a0.getD a1.toNat zS60).f0.f6), .int .u32 ((a0.getD a1.toNat zS60).f0.f7), .int .i64 ((a0.getD a1.toNat zS60).f0.f8), .int .i32 ((a0.getD a1.toNat zS60).f1)] :: Ass.own 60 kS60 b9 c2 a8 :: Ass.box 93 a4 [.slice (some b8) a0.length a3] :: Ass.own 60 kS60 (some b8) a3 a0 :: Ass.box 91 a5 [.slice b3 a6.length b5, .slice b4 a7.length b6] :: Ass.deep 94 96 kS96 b3 b5 a6 :: Ass.own 3 (Kd.int .i64) b4 b6 a7 :: Ass.own 36 kS36 c0 c3 a9 :: Ass.own 36 kS36 c1 c4 b0 :: os) hS 0 rfl 60 0 (.agg #[.int .i32 ((a0.getD a1.toNat zS60).f0.f0), .int .i64 ((a0.getD a1.toNat zS60).f0.f1), .int .i64 ((a0.getD a1.toNat zS60).f0.f2), .slice a2.1 ((a0.getD a1.toNat zS60).f0.f3).length a2.2, .int .i32 ((a0.getD a1.toNat zS60).f0.f4.f0), .int .i32 ((a0.getD a1.toNat zS60).f0.f4.f1), .int .i32 ((a0.getD a1.toNat zS60).f0.f4.f2), .int .i32 ((a0.getD a1.toNat zS60).f0.f4.f3), .int .i64 ((a0.getD a1.toNat zS60).f0.f5), .int .i64 ((a0.getD a1.toNat zS60).f0.f6), .int .u32 ((a0.getD a1.toNat zS60).f0.f7), .int .i64 ((a0.getD a1.toNat zS60).f0.f8), .int .i32 ((a0.getD a1.toNat zS60).f1)]) [.int .i32 ((a0.getD a1.toNat zS60).f0.f0), .int .i64 ((a0.getD a1.toNat zS60).f0.f1), .int .i64 ((a0.getD a1.toNat zS60).f0.f2), .slice a2.1 ((a0.getD a1.toNat zS60).f0.f3).length a2.2, .int .i32 ((a0.getD a1.toNat zS60).f0.f4.f0), .int .i32 ((a0.getD a1.toNat zS60).f0.f4.f1), .int .i32 ((a0.getD a1.toNat zS60).f0.f4.f2), .int .i32 ((a0.getD a1.toNat zS60).f0.f4.f3), .int .i64 ((a0.getD a1.toNat zS60).f0.f5), .int .i64 ((a0.getD a1.toNat zS60).f0.f6), .int .u32 ((a0.getD a1.toNat zS60).f0.f7), .int .i64 ((a0.getD a1.toNat zS60).f0.f8), .int .i32 ((a0.getD a1.toNat zS60).f1)] (by kernel_rfl) (by kernel_rfl) (by kernel_rfl) (by kernel_rfl) (by kernel_rfl) (by kernel_rfl) rfl rfl ?_)
     intro w hS
     refine EL.done (by kernel_rfl) ?_
     refine EQ.code ?_
     refine EW.seq (x := Cd16.r.r.r.l.r.l.l.r.r.l.l.r.l) (y := Cd16.r.r.r.l.r.l.l.r.r.l.l.r.r) (by kernel_rfl) ?_
     refine EW.seq (x := Cd16.r.r.r.l.r.l.l.r.r.l.l.r.l.l) (y := Cd16.r.r.r.l.r.l.l.r.r.l.l.r.l.r) (by kernel_rfl) ?_
     refine EW.region (id := 6) (ops := Cd16.r.r.r.l.r.l.l.r.r.l.l.r.l.l.ops) (by kernel_rfl) ?_
     refine EL.quick 2 [0, 1, 6, 7, 8, 9, 11, 23, 24, 25, 30] [(0, .pointer (some ⟨a4, 0, none⟩)), (1, .pointer (some ⟨a5, 0, none⟩)), (6, .slice c0 a9.length c3), (7, .slice c1 b0.length c4), (8, .int .i64 b2), (9, .slice b9 a8.length c2), (11, .pointer (some ⟨c5, 0, none⟩)), (23, .slice (some b8) a0.length a3), (24, .int .i64 (a0.length : Int)), (25, .int .i64 a1), (30, .bool (decide (b2 = 0)))] (by kernel_rfl) ?_
     refine EL.done (by kernel_rfl) ?_
     refine EQ.code ?_
     refine EW.condP (o := (.tmp 30)) (x := Cd16.r.r.r.l.r.l.l.r.r.l.l.r.l.r.l) (y := Cd16.r.r.r.l.r.l.l.r.r.l.l.r.l.r.r) (b2 = 0) (by kernel_rfl) (by kernel_rfl) (fun j4 => ?_) (fun j4 => ?_)
     ·rw [if_pos j4] at H
      refine EW.seq (x := Cd16.r.r.r.l.r.l.l.r.r.l.l.r.l.r.l.l) (y := Cd16.r.r.r.l.r.l.l.r.r.l.l.r.l.r.l.r) (by kernel_rfl) ?_
      refine EW.region (id := 7) (ops := Cd16.r.r.r.l.r.l.l.r.r.l.l.r.l.r.l.l.ops) (by kernel_rfl) ?_
      refine EL.quick 2 [0, 1, 6, 8, 9, 23, 24, 25, 31, 32] [(0, .pointer (some ⟨a4, 0, none⟩)), (1, .pointer (some ⟨a5, 0, none⟩)), (6, .slice c0 a9.length c3), (8, .int .i64 b2), (9, .slice b9 a8.length c2), (23, .slice (some b8) a0.length a3), (24, .int .i64 (a0.length : Int)), (25, .int .i64 a1), (31, .slice c1 b0.length c4), (32, .pointer (some ⟨c5, 0, none⟩))] (by kernel_rfl) ?_
      refine EL.of (EO.Y (YO.loadBox hS 0 rfl 36 0 12 (.agg #[.int .i32 ((a0.getD a1.toNat zS60).f0.f0), .int .i64 ((a0.getD a1.toNat zS60).f0.f1), .int .i64 ((a0.getD a1.toNat zS60).f0.f2), .slice a2.1 ((a0.getD a1.toNat zS60).f0.f3).length a2.2, .int .i32 ((a0.getD a1.toNat zS60).f0.f4.f0), .int .i32 ((a0.getD a1.toNat zS60).f0.f4.f1), .int .i32 ((a0.getD a1.toNat zS60).f0.f4.f2), .int .i32 ((a0.getD a1.toNat zS60).f0.f4.f3), .int .i64 ((a0.getD a1.toNat zS60).f0.f5), .int .i64 ((a0.getD a1.toNat zS60).f0.f6), .int .u32 ((a0.getD a1.toNat zS60).f0.f7), .int .i64 ((a0.getD a1.toNat zS60).f0.f8)]) 33 (by kernel_rfl) (by kernel_rfl) (by kernel_rfl) (by kernel_rfl)) ?_)
      obtain ⟨g4, m7, H⟩ := lt_out H
      refine EL.of (EO.lit hS kS36 36 37 1 #[(0, .agg #[.int .i32 ((a0.getD a1.toNat zS60).f0.f0), .int .i64 ((a0.getD a1.toNat zS60).f0.f1), .int .i64 ((a0.getD a1.toNat zS60).f0.f2), .slice a2.1 ((a0.getD a1.toNat zS60).f0.f3).length a2.2, .int .i32 ((a0.getD a1.toNat zS60).f0.f4.f0), .int .i32 ((a0.getD a1.toNat zS60).f0.f4.f1), .int .i32 ((a0.getD a1.toNat zS60).f0.f4.f2), .int .i32 ((a0.getD a1.toNat zS60).f0.f4.f3), .int .i64 ((a0.getD a1.toNat zS60).f0.f5), .int .i64 ((a0.getD a1.toNat zS60).f0.f6), .int .u32 ((a0.getD a1.toNat zS60).f0.f7), .int .i64 ((a0.getD a1.toNat zS60).f0.f8)])] [.int .i32 ((a0.getD a1.toNat zS60).f0.f0), .int .i64 ((a0.getD a1.toNat zS60).f0.f1), .int .i64 ((a0.getD a1.toNat zS60).f0.f2), .slice a2.1 ((a0.getD a1.toNat zS60).f0.f3).length a2.2, .int .i32 ((a0.getD a1.toNat zS60).f0.f4.f0), .int .i32 ((a0.getD a1.toNat zS60).f0.f4.f1), .int .i32 ((a0.getD a1.toNat zS60).f0.f4.f2), .int .i32 ((a0.getD a1.toNat zS60).f0.f4.f3), .int .i64 ((a0.getD a1.toNat zS60).f0.f5), .int .i64 ((a0.getD a1.toNat zS60).f0.f6), .int .u32 ((a0.getD a1.toNat zS60).f0.f7), .int .i64 ((a0.getD a1.toNat zS60).f0.f8)] g4 34 (by kernel_rfl) (by kernel_rfl) (by kernel_rfl) (fun _ => (by kernel_rfl)) (by rw [m7]; rfl) (by kernel_rfl) (fun w G hr => (by rw [m7]; exact ⟨[.int .i32 ((a0.getD a1.toNat zS60).f0.f0), .int .i64 ((a0.getD a1.toNat zS60).f0.f1), .int .i64 ((a0.getD a1.toNat zS60).f0.f2), .slice a2.1 ((a0.getD a1.toNat zS60).f0.f3).length a2.2, .int .i32 ((a0.getD a1.toNat zS60).f0.f4.f0), .int .i32 ((a0.getD a1.toNat zS60).f0.f4.f1), .int .i32 ((a0.getD a1.toNat zS60).f0.f4.f2), .int .i32 ((a0.getD a1.toNat zS60).f0.f4.f3), .int .i64 ((a0.getD a1.toNat zS60).f0.f5), .int .i64 ((a0.getD a1.toNat zS60).f0.f6), .int .u32 ((a0.getD a1.toNat zS60).f0.f7), .int .i64 ((a0.getD a1.toNat zS60).f0.f8)], [], rfl, ⟨[.int .i32 ((a0.getD a1.toNat zS60).f0.f0)], [.int .i64 ((a0.getD a1.toNat zS60).f0.f1), .int .i64 ((a0.getD a1.toNat zS60).f0.f2), .slice a2.1 ((a0.getD a1.toNat zS60).f0.f3).length a2.2, .int .i32 ((a0.getD a1.toNat zS60).f0.f4.f0), .int .i32 ((a0.getD a1.toNat zS60).f0.f4.f1), .int .i32 ((a0.getD a1.toNat zS60).f0.f4.f2), .int .i32 ((a0.getD a1.toNat zS60).f0.f4.f3), .int .i64 ((a0.getD a1.toNat zS60).f0.f5), .int .i64 ((a0.getD a1.toNat zS60).f0.f6), .int .u32 ((a0.getD a1.toNat zS60).f0.f7), .int .i64 ((a0.getD a1.toNat zS60).f0.f8)], rfl, rfl, ⟨[.int .i64 ((a0.getD a1.toNat zS60).f0.f1)], [.int .i64 ((a0.getD a1.toNat zS60).f0.f2), .slice a2.1 ((a0.getD a1.toNat zS60).f0.f3).length a2.2, .int .i32 ((a0.getD a1.toNat zS60).f0.f4.f0), .int .i32 ((a0.getD a1.toNat zS60).f0.f4.f1), .int .i32 ((a0.getD a1.toNat zS60).f0.f4.f2), .int .i32 ((a0.getD a1.toNat zS60).f0.f4.f3), .int .i64 ((a0.getD a1.toNat zS60).f0.f5), .int .i64 ((a0.getD a1.toNat zS60).f0.f6), .int .u32 ((a0.getD a1.toNat zS60).f0.f7), .int .i64 ((a0.getD a1.toNat zS60).f0.f8)], rfl, rfl, ⟨[.int .i64 ((a0.getD a1.toNat zS60).f0.f2)], [.slice a2.1 ((a0.getD a1.toNat zS60).f0.f3).length a2.2, .int .i32 ((a0.getD a1.toNat zS60).f0.f4.f0), .int .i32 ((a0.getD a1.toNat zS60).f0.f4.f1), .int .i32 ((a0.getD a1.toNat zS60).f0.f4.f2), .int .i32 ((a0.getD a1.toNat zS60).f0.f4.f3), .int .i64 ((a0.getD a1.toNat zS60).f0.f5), .int .i64 ((a0.getD a1.toNat zS60).f0.f6), .int .u32 ((a0.getD a1.toNat zS60).f0.f7), .int .i64 ((a0.getD a1.toNat zS60).f0.f8)], rfl, rfl, ⟨[.slice a2.1 ((a0.getD a1.toNat zS60).f0.f3).length a2.2], [.int .i32 ((a0.getD a1.toNat zS60).f0.f4.f0), .int .i32 ((a0.getD a1.toNat zS60).f0.f4.f1), .int .i32 ((a0.getD a1.toNat zS60).f0.f4.f2), .int .i32 ((a0.getD a1.toNat zS60).f0.f4.f3), .int .i64 ((a0.getD a1.toNat zS60).f0.f5), .int .i64 ((a0.getD a1.toNat zS60).f0.f6), .int .u32 ((a0.getD a1.toNat zS60).f0.f7), .int .i64 ((a0.getD a1.toNat zS60).f0.f8)], rfl, (hr _ (List.mem_of_getElem? (i := 0) rfl)), ⟨[.int .i32 ((a0.getD a1.toNat zS60).f0.f4.f0), .int .i32 ((a0.getD a1.toNat zS60).f0.f4.f1), .int .i32 ((a0.getD a1.toNat zS60).f0.f4.f2), .int .i32 ((a0.getD a1.toNat zS60).f0.f4.f3)], [.int .i64 ((a0.getD a1.toNat zS60).f0.f5), .int .i64 ((a0.getD a1.toNat zS60).f0.f6), .int .u32 ((a0.getD a1.toNat zS60).f0.f7), .int .i64 ((a0.getD a1.toNat zS60).f0.f8)], rfl, ⟨[.int .i32 ((a0.getD a1.toNat zS60).f0.f4.f0)], [.int .i32 ((a0.getD a1.toNat zS60).f0.f4.f1), .int .i32 ((a0.getD a1.toNat zS60).f0.f4.f2), .int .i32 ((a0.getD a1.toNat zS60).f0.f4.f3)], rfl, rfl, ⟨[.int .i32 ((a0.getD a1.toNat zS60).f0.f4.f1)], [.int .i32 ((a0.getD a1.toNat zS60).f0.f4.f2), .int .i32 ((a0.getD a1.toNat zS60).f0.f4.f3)], rfl, rfl, ⟨[.int .i32 ((a0.getD a1.toNat zS60).f0.f4.f2)], [.int .i32 ((a0.getD a1.toNat zS60).f0.f4.f3)], rfl, rfl, ⟨[.int .i32 ((a0.getD a1.toNat zS60).f0.f4.f3)], [], rfl, rfl, rfl⟩⟩⟩⟩, ⟨[.int .i64 ((a0.getD a1.toNat zS60).f0.f5)], [.int .i64 ((a0.getD a1.toNat zS60).f0.f6), .int .u32 ((a0.getD a1.toNat zS60).f0.f7), .int .i64 ((a0.getD a1.toNat zS60).f0.f8)], rfl, rfl, ⟨[.int .i64 ((a0.getD a1.toNat zS60).f0.f6)], [.int .u32 ((a0.getD a1.toNat zS60).f0.f7), .int .i64 ((a0.getD a1.toNat zS60).f0.f8)], rfl, rfl, ⟨[.int .u32 ((a0.getD a1.toNat zS60).f0.f7)], [.int .i64 ((a0.getD a1.toNat zS60).f0.f8)], rfl, rfl, ⟨[.int .i64 ((a0.getD a1.toNat zS60).f0.f8)], [], rfl, rfl, rfl⟩⟩⟩⟩⟩⟩⟩⟩⟩, rfl⟩)) ?_)
      intro m4 w hS
      obtain ⟨n1, H⟩ := ite_in H
      obtain ⟨e5, n9, H⟩ := lt_out H
      refine EL.of (EO.append hS 37 37 36 96 9 kS36 c1 c4 b0 rfl (some ⟨m4, 0, none⟩) 1 g4 (Rd.own 0 36 rfl) e5 n9 (fun i0 i3 => Ass.own 36 kS36 (some ⟨m4, 0, none⟩) 1 g4 :: Ass.box 60 c5 [.int .i32 ((a0.getD a1.toNat zS60).f0.f0), .int .i64 ((a0.getD a1.toNat zS60).f0.f1), .int .i64 ((a0.getD a1.toNat zS60).f0.f2), .slice a2.1 ((a0.getD a1.toNat zS60).f0.f3).length a2.2, .int .i32 ((a0.getD a1.toNat zS60).f0.f4.f0), .int .i32 ((a0.getD a1.toNat zS60).f0.f4.f1), .int .i32 ((a0.getD a1.toNat zS60).f0.f4.f2), .int .i32 ((a0.getD a1.toNat zS60).f0.f4.f3), .int .i64 ((a0.getD a1.toNat zS60).f0.f5), .int .i64 ((a0.getD a1.toNat zS60).f0.f6), .int .u32 ((a0.getD a1.toNat zS60).f0.f7), .int .i64 ((a0.getD a1.toNat zS60).f0.f8), .int .i32 ((a0.getD a1.toNat zS60).f1)] :: Ass.own 60 kS60 b9 c2 a8 :: Ass.box 93 a4 [.slice (some b8) a0.length a3] :: Ass.own 60 kS60 (some b8) a3 a0 :: Ass.box 91 a5 [.slice b3 a6.length b5, .slice b4 a7.length b6] :: Ass.deep 94 96 kS96 b3 b5 a6 :: Ass.own 3 (Kd.int .i64) b4 b6 a7 :: Ass.own 36 kS36 c0 c3 a9 :: Ass.own 36 kS36 i0 i3 e5 :: os) 35 (by kernel_rfl) (by kernel_rfl) (by kernel_rfl) (by kernel_rfl) n1 (fun _ _ => rfl) ?_)
      intro i0 i3 w hS
      refine EL.quick 1 [0, 1, 6, 7, 8, 9, 23, 24, 25] [(0, .pointer (some ⟨a4, 0, none⟩)), (1, .pointer (some ⟨a5, 0, none⟩)), (6, .slice c0 a9.length c3), (7, .slice i0 e5.length i3), (8, .int .i64 b2), (9, .slice b9 a8.length c2), (23, .slice (some b8) a0.length a3), (24, .int .i64 (a0.length : Int)), (25, .int .i64 a1)] (by kernel_rfl) ?_
      refine EL.done (by kernel_rfl) ?_
      refine EQ.code ?_
      refine EW.exit (id := 1) (by kernel_rfl) ?_
      refine EQ.exitCode ?_
      refine EQ.exitHere ?_
      refine EQ.to ?_
      refine EQ.keep [0, 1, 6, 7, 8, 9, 23, 24, 25] [(0, .pointer (some ⟨a4, 0, none⟩)), (1, .pointer (some ⟨a5, 0, none⟩)), (6, .slice c0 a9.length c3), (7, .slice i0 e5.length i3), (8, .int .i64 b2), (9, .slice b9 a8.length c2), (23, .slice (some b8) a0.length a3), (24, .int .i64 (a0.length : Int)), (25, .int .i64 a1)] (by kernel_rfl) ?_
      exact fun a ha => ⟨a8, a9, e5, b2, c5, a2.1, a2.2, b9, c2, c0, c3, i0, i3, ha, (hS.re [9, 9, 9, 9, 9, 9, 9, 9, 9] [9] rfl (sub_cons 0 rfl (sub_tail (sub_self)))), H⟩
     ·rw [if_neg j4] at H
      refine EW.skip (by kernel_rfl) ?_
      refine EQ.code ?_
      refine EW.seq (x := Cd16.r.r.r.l.r.l.l.r.r.l.l.r.r.l) (y := Cd16.r.r.r.l.r.l.l.r.r.l.l.r.r.r) (by kernel_rfl) ?_
      refine EW.region (id := 8) (ops := Cd16.r.r.r.l.r.l.l.r.r.l.l.r.r.l.ops) (by kernel_rfl) ?_
      refine EL.quick 3 [0, 1, 6, 7, 8, 9, 11, 23, 24, 25] [(0, .pointer (some ⟨a4, 0, none⟩)), (1, .pointer (some ⟨a5, 0, none⟩)), (6, .slice c0 a9.length c3), (7, .slice c1 b0.length c4), (8, .int .i64 (IntKind.i64.wrap (b2 - 1))), (9, .slice b9 a8.length c2), (11, .pointer (some ⟨c5, 0, none⟩)), (23, .slice (some b8) a0.length a3), (24, .int .i64 (a0.length : Int)), (25, .int .i64 a1)] (by kernel_rfl) ?_
      refine EL.done (by kernel_rfl) ?_
      refine EQ.code ?_
      refine EW.seq (x := Cd16.r.r.r.l.r.l.l.r.r.l.l.r.r.r.l) (y := Cd16.r.r.r.l.r.l.l.r.r.l.l.r.r.r.r) (by kernel_rfl) ?_
      refine EW.region (id := 9) (ops := Cd16.r.r.r.l.r.l.l.r.r.l.l.r.r.r.l.ops) (by kernel_rfl) ?_
      refine EL.quick 2 [0, 1, 6, 7, 8, 9, 11, 23, 24, 25, 38, 39] [(0, .pointer (some ⟨a4, 0, none⟩)), (1, .pointer (some ⟨a5, 0, none⟩)), (6, .slice c0 a9.length c3), (7, .slice c1 b0.length c4), (8, .int .i64 (IntKind.i64.wrap (b2 - 1))), (9, .slice b9 a8.length c2), (11, .pointer (some ⟨c5, 0, none⟩)), (23, .slice (some b8) a0.length a3), (24, .int .i64 (a0.length : Int)), (25, .int .i64 a1), (38, .pointer (some ⟨a5, 0, none⟩)), (39, .pointer (some ⟨c5, 12, none⟩))] (by kernel_rfl) ?_
      refine EL.of (EO.Y (YO.loadBox hS 0 rfl 21 12 1 (.int .i32 ((a0.getD a1.toNat zS60).f1)) 40 (by kernel_rfl) (by kernel_rfl) (by kernel_rfl) (by kernel_rfl)) ?_)
      have hS : St B _ (Ass.box 91 a5 [.slice b3 a6.length b5, .slice b4 a7.length b6] :: Ass.deep 94 96 kS96 b3 b5 a6 :: Ass.own 3 (Kd.int .i64) b4 b6 a7 :: Ass.box 60 c5 [.int .i32 ((a0.getD a1.toNat zS60).f0.f0), .int .i64 ((a0.getD a1.toNat zS60).f0.f1), .int .i64 ((a0.getD a1.toNat zS60).f0.f2), .slice a2.1 ((a0.getD a1.toNat zS60).f0.f3).length a2.2, .int .i32 ((a0.getD a1.toNat zS60).f0.f4.f0), .int .i32 ((a0.getD a1.toNat zS60).f0.f4.f1), .int .i32 ((a0.getD a1.toNat zS60).f0.f4.f2), .int .i32 ((a0.getD a1.toNat zS60).f0.f4.f3), .int .i64 ((a0.getD a1.toNat zS60).f0.f5), .int .i64 ((a0.getD a1.toNat zS60).f0.f6), .int .u32 ((a0.getD a1.toNat zS60).f0.f7), .int .i64 ((a0.getD a1.toNat zS60).f0.f8), .int .i32 ((a0.getD a1.toNat zS60).f1)] :: Ass.own 60 kS60 b9 c2 a8 :: Ass.box 93 a4 [.slice (some b8) a0.length a3] :: Ass.own 60 kS60 (some b8) a3 a0 :: Ass.own 36 kS36 c0 c3 a9 :: Ass.own 36 kS36 c1 c4 b0 :: os) (Ro.sl (Kd.int .i32) a2.1 a2.2 ((a0.getD a1.toNat zS60).f0.f3) :: rs) := hS.re [6, 6, 6] [] rfl sub_self
      obtain ⟨j6, n4, H⟩ := b1_out H
      refine EL.of (EO.callD 45 [.pointer (some ⟨a5, 0, none⟩), .int .i32 ((a0.getD a1.toNat zS60).f1)] _ 41 (by kernel_rfl) (by kernel_rfl) (by kernel_rfl) (park_done.calls n4 hS) ?_)
      rintro v w ⟨rfl, hS⟩
      refine EL.done (by kernel_rfl) ?_
      refine EQ.code ?_
      refine EW.condP' (o := (.tmp 41)) (x := Cd16.r.r.r.l.r.l.l.r.r.l.l.r.r.r.r.l) (y := Cd16.r.r.r.l.r.l.l.r.r.l.l.r.r.r.r.r) (j6) (by kernel_rfl) (by kernel_rfl) (fun j5 => ?_) (fun j5 => ?_)
      ·rw [if_pos j5] at H
       refine EW.region (id := 10) (ops := Cd16.r.r.r.l.r.l.l.r.r.l.l.r.r.r.r.l.ops) (by kernel_rfl) ?_
       refine EL.quick 2 [0, 1, 7, 8, 9, 23, 24, 25, 42, 43] [(0, .pointer (some ⟨a4, 0, none⟩)), (1, .pointer (some ⟨a5, 0, none⟩)), (7, .slice c1 b0.length c4), (8, .int .i64 (IntKind.i64.wrap (b2 - 1))), (9, .slice b9 a8.length c2), (23, .slice (some b8) a0.length a3), (24, .int .i64 (a0.length : Int)), (25, .int .i64 a1), (42, .slice c0 a9.length c3), (43, .pointer (some ⟨c5, 0, none⟩))] (by kernel_rfl) ?_
       refine EL.of (EO.Y (YO.loadBox hS 3 rfl 36 0 12 (.agg #[.int .i32 ((a0.getD a1.toNat zS60).f0.f0), .int .i64 ((a0.getD a1.toNat zS60).f0.f1), .int .i64 ((a0.getD a1.toNat zS60).f0.f2), .slice a2.1 ((a0.getD a1.toNat zS60).f0.f3).length a2.2, .int .i32 ((a0.getD a1.toNat zS60).f0.f4.f0), .int .i32 ((a0.getD a1.toNat zS60).f0.f4.f1), .int .i32 ((a0.getD a1.toNat zS60).f0.f4.f2), .int .i32 ((a0.getD a1.toNat zS60).f0.f4.f3), .int .i64 ((a0.getD a1.toNat zS60).f0.f5), .int .i64 ((a0.getD a1.toNat zS60).f0.f6), .int .u32 ((a0.getD a1.toNat zS60).f0.f7), .int .i64 ((a0.getD a1.toNat zS60).f0.f8)]) 44 (by kernel_rfl) (by kernel_rfl) (by kernel_rfl) (by kernel_rfl)) ?_)
       obtain ⟨g5, m8, H⟩ := lt_out H
       refine EL.of (EO.lit hS kS36 36 37 1 #[(0, .agg #[.int .i32 ((a0.getD a1.toNat zS60).f0.f0), .int .i64 ((a0.getD a1.toNat zS60).f0.f1), .int .i64 ((a0.getD a1.toNat zS60).f0.f2), .slice a2.1 ((a0.getD a1.toNat zS60).f0.f3).length a2.2, .int .i32 ((a0.getD a1.toNat zS60).f0.f4.f0), .int .i32 ((a0.getD a1.toNat zS60).f0.f4.f1), .int .i32 ((a0.getD a1.toNat zS60).f0.f4.f2), .int .i32 ((a0.getD a1.toNat zS60).f0.f4.f3), .int .i64 ((a0.getD a1.toNat zS60).f0.f5), .int .i64 ((a0.getD a1.toNat zS60).f0.f6), .int .u32 ((a0.getD a1.toNat zS60).f0.f7), .int .i64 ((a0.getD a1.toNat zS60).f0.f8)])] [.int .i32 ((a0.getD a1.toNat zS60).f0.f0), .int .i64 ((a0.getD a1.toNat zS60).f0.f1), .int .i64 ((a0.getD a1.toNat zS60).f0.f2), .slice a2.1 ((a0.getD a1.toNat zS60).f0.f3).length a2.2, .int .i32 ((a0.getD a1.toNat zS60).f0.f4.f0), .int .i32 ((a0.getD a1.toNat zS60).f0.f4.f1), .int .i32 ((a0.getD a1.toNat zS60).f0.f4.f2), .int .i32 ((a0.getD a1.toNat zS60).f0.f4.f3), .int .i64 ((a0.getD a1.toNat zS60).f0.f5), .int .i64 ((a0.getD a1.toNat zS60).f0.f6), .int .u32 ((a0.getD a1.toNat zS60).f0.f7), .int .i64 ((a0.getD a1.toNat zS60).f0.f8)] g5 45 (by kernel_rfl) (by kernel_rfl) (by kernel_rfl) (fun _ => (by kernel_rfl)) (by rw [m8]; rfl) (by kernel_rfl) (fun w G hr => (by rw [m8]; exact ⟨[.int .i32 ((a0.getD a1.toNat zS60).f0.f0), .int .i64 ((a0.getD a1.toNat zS60).f0.f1), .int .i64 ((a0.getD a1.toNat zS60).f0.f2), .slice a2.1 ((a0.getD a1.toNat zS60).f0.f3).length a2.2, .int .i32 ((a0.getD a1.toNat zS60).f0.f4.f0), .int .i32 ((a0.getD a1.toNat zS60).f0.f4.f1), .int .i32 ((a0.getD a1.toNat zS60).f0.f4.f2), .int .i32 ((a0.getD a1.toNat zS60).f0.f4.f3), .int .i64 ((a0.getD a1.toNat zS60).f0.f5), .int .i64 ((a0.getD a1.toNat zS60).f0.f6), .int .u32 ((a0.getD a1.toNat zS60).f0.f7), .int .i64 ((a0.getD a1.toNat zS60).f0.f8)], [], rfl, ⟨[.int .i32 ((a0.getD a1.toNat zS60).f0.f0)], [.int .i64 ((a0.getD a1.toNat zS60).f0.f1), .int .i64 ((a0.getD a1.toNat zS60).f0.f2), .slice a2.1 ((a0.getD a1.toNat zS60).f0.f3).length a2.2, .int .i32 ((a0.getD a1.toNat zS60).f0.f4.f0), .int .i32 ((a0.getD a1.toNat zS60).f0.f4.f1), .int .i32 ((a0.getD a1.toNat zS60).f0.f4.f2), .int .i32 ((a0.getD a1.toNat zS60).f0.f4.f3), .int .i64 ((a0.getD a1.toNat zS60).f0.f5), .int .i64 ((a0.getD a1.toNat zS60).f0.f6), .int .u32 ((a0.getD a1.toNat zS60).f0.f7), .int .i64 ((a0.getD a1.toNat zS60).f0.f8)], rfl, rfl, ⟨[.int .i64 ((a0.getD a1.toNat zS60).f0.f1)], [.int .i64 ((a0.getD a1.toNat zS60).f0.f2), .slice a2.1 ((a0.getD a1.toNat zS60).f0.f3).length a2.2, .int .i32 ((a0.getD a1.toNat zS60).f0.f4.f0), .int .i32 ((a0.getD a1.toNat zS60).f0.f4.f1), .int .i32 ((a0.getD a1.toNat zS60).f0.f4.f2), .int .i32 ((a0.getD a1.toNat zS60).f0.f4.f3), .int .i64 ((a0.getD a1.toNat zS60).f0.f5), .int .i64 ((a0.getD a1.toNat zS60).f0.f6), .int .u32 ((a0.getD a1.toNat zS60).f0.f7), .int .i64 ((a0.getD a1.toNat zS60).f0.f8)], rfl, rfl, ⟨[.int .i64 ((a0.getD a1.toNat zS60).f0.f2)], [.slice a2.1 ((a0.getD a1.toNat zS60).f0.f3).length a2.2, .int .i32 ((a0.getD a1.toNat zS60).f0.f4.f0), .int .i32 ((a0.getD a1.toNat zS60).f0.f4.f1), .int .i32 ((a0.getD a1.toNat zS60).f0.f4.f2), .int .i32 ((a0.getD a1.toNat zS60).f0.f4.f3), .int .i64 ((a0.getD a1.toNat zS60).f0.f5), .int .i64 ((a0.getD a1.toNat zS60).f0.f6), .int .u32 ((a0.getD a1.toNat zS60).f0.f7), .int .i64 ((a0.getD a1.toNat zS60).f0.f8)], rfl, rfl, ⟨[.slice a2.1 ((a0.getD a1.toNat zS60).f0.f3).length a2.2], [.int .i32 ((a0.getD a1.toNat zS60).f0.f4.f0), .int .i32 ((a0.getD a1.toNat zS60).f0.f4.f1), .int .i32 ((a0.getD a1.toNat zS60).f0.f4.f2), .int .i32 ((a0.getD a1.toNat zS60).f0.f4.f3), .int .i64 ((a0.getD a1.toNat zS60).f0.f5), .int .i64 ((a0.getD a1.toNat zS60).f0.f6), .int .u32 ((a0.getD a1.toNat zS60).f0.f7), .int .i64 ((a0.getD a1.toNat zS60).f0.f8)], rfl, (hr _ (List.mem_of_getElem? (i := 0) rfl)), ⟨[.int .i32 ((a0.getD a1.toNat zS60).f0.f4.f0), .int .i32 ((a0.getD a1.toNat zS60).f0.f4.f1), .int .i32 ((a0.getD a1.toNat zS60).f0.f4.f2), .int .i32 ((a0.getD a1.toNat zS60).f0.f4.f3)], [.int .i64 ((a0.getD a1.toNat zS60).f0.f5), .int .i64 ((a0.getD a1.toNat zS60).f0.f6), .int .u32 ((a0.getD a1.toNat zS60).f0.f7), .int .i64 ((a0.getD a1.toNat zS60).f0.f8)], rfl, ⟨[.int .i32 ((a0.getD a1.toNat zS60).f0.f4.f0)], [.int .i32 ((a0.getD a1.toNat zS60).f0.f4.f1), .int .i32 ((a0.getD a1.toNat zS60).f0.f4.f2), .int .i32 ((a0.getD a1.toNat zS60).f0.f4.f3)], rfl, rfl, ⟨[.int .i32 ((a0.getD a1.toNat zS60).f0.f4.f1)], [.int .i32 ((a0.getD a1.toNat zS60).f0.f4.f2), .int .i32 ((a0.getD a1.toNat zS60).f0.f4.f3)], rfl, rfl, ⟨[.int .i32 ((a0.getD a1.toNat zS60).f0.f4.f2)], [.int .i32 ((a0.getD a1.toNat zS60).f0.f4.f3)], rfl, rfl, ⟨[.int .i32 ((a0.getD a1.toNat zS60).f0.f4.f3)], [], rfl, rfl, rfl⟩⟩⟩⟩, ⟨[.int .i64 ((a0.getD a1.toNat zS60).f0.f5)], [.int .i64 ((a0.getD a1.toNat zS60).f0.f6), .int .u32 ((a0.getD a1.toNat zS60).f0.f7), .int .i64 ((a0.getD a1.toNat zS60).f0.f8)], rfl, rfl, ⟨[.int .i64 ((a0.getD a1.toNat zS60).f0.f6)], [.int .u32 ((a0.getD a1.toNat zS60).f0.f7), .int .i64 ((a0.getD a1.toNat zS60).f0.f8)], rfl, rfl, ⟨[.int .u32 ((a0.getD a1.toNat zS60).f0.f7)], [.int .i64 ((a0.getD a1.toNat zS60).f0.f8)], rfl, rfl, ⟨[.int .i64 ((a0.getD a1.toNat zS60).f0.f8)], [], rfl, rfl, rfl⟩⟩⟩⟩⟩⟩⟩⟩⟩, rfl⟩)) ?_)
       intro m5 w hS
       obtain ⟨n2, H⟩ := ite_in H
       obtain ⟨e6, o0, H⟩ := lt_out H
       refine EL.of (EO.append hS 37 37 36 96 8 kS36 c0 c3 a9 rfl (some ⟨m5, 0, none⟩) 1 g5 (Rd.own 0 36 rfl) e6 o0 (fun i1 i4 => Ass.own 36 kS36 (some ⟨m5, 0, none⟩) 1 g5 :: Ass.box 91 a5 [.slice b3 a6.length b5, .slice b4 a7.length b6] :: Ass.deep 94 96 kS96 b3 b5 a6 :: Ass.own 3 (Kd.int .i64) b4 b6 a7 :: Ass.box 60 c5 [.int .i32 ((a0.getD a1.toNat zS60).f0.f0), .int .i64 ((a0.getD a1.toNat zS60).f0.f1), .int .i64 ((a0.getD a1.toNat zS60).f0.f2), .slice a2.1 ((a0.getD a1.toNat zS60).f0.f3).length a2.2, .int .i32 ((a0.getD a1.toNat zS60).f0.f4.f0), .int .i32 ((a0.getD a1.toNat zS60).f0.f4.f1), .int .i32 ((a0.getD a1.toNat zS60).f0.f4.f2), .int .i32 ((a0.getD a1.toNat zS60).f0.f4.f3), .int .i64 ((a0.getD a1.toNat zS60).f0.f5), .int .i64 ((a0.getD a1.toNat zS60).f0.f6), .int .u32 ((a0.getD a1.toNat zS60).f0.f7), .int .i64 ((a0.getD a1.toNat zS60).f0.f8), .int .i32 ((a0.getD a1.toNat zS60).f1)] :: Ass.own 60 kS60 b9 c2 a8 :: Ass.box 93 a4 [.slice (some b8) a0.length a3] :: Ass.own 60 kS60 (some b8) a3 a0 :: Ass.own 36 kS36 i1 i4 e6 :: Ass.own 36 kS36 c1 c4 b0 :: os) 46 (by kernel_rfl) (by kernel_rfl) (by kernel_rfl) (by kernel_rfl) n2 (fun _ _ => rfl) ?_)
       intro i1 i4 w hS
       refine EL.quick 1 [0, 1, 6, 7, 8, 9, 23, 24, 25] [(0, .pointer (some ⟨a4, 0, none⟩)), (1, .pointer (some ⟨a5, 0, none⟩)), (6, .slice i1 e6.length i4), (7, .slice c1 b0.length c4), (8, .int .i64 (IntKind.i64.wrap (b2 - 1))), (9, .slice b9 a8.length c2), (23, .slice (some b8) a0.length a3), (24, .int .i64 (a0.length : Int)), (25, .int .i64 a1)] (by kernel_rfl) ?_
       refine EL.done (by kernel_rfl) ?_
       refine EQ.pop ?_
       refine EQ.to ?_
       refine EQ.keep [0, 1, 6, 7, 8, 9, 23, 24, 25] [(0, .pointer (some ⟨a4, 0, none⟩)), (1, .pointer (some ⟨a5, 0, none⟩)), (6, .slice i1 e6.length i4), (7, .slice c1 b0.length c4), (8, .int .i64 (IntKind.i64.wrap (b2 - 1))), (9, .slice b9 a8.length c2), (23, .slice (some b8) a0.length a3), (24, .int .i64 (a0.length : Int)), (25, .int .i64 a1)] (by kernel_rfl) ?_
       exact fun a ha => ⟨a8, e6, b0, IntKind.i64.wrap (b2 - 1), c5, a2.1, a2.2, b9, c2, i1, i4, c1, c4, ha, (hS.re [9, 9, 5, 5, 5, 9, 9, 9, 9] [9] rfl (sub_cons 0 rfl (sub_tail (sub_self)))), H⟩
      ·rw [if_neg j5] at H
       refine EW.region (id := 11) (ops := Cd16.r.r.r.l.r.l.l.r.r.l.l.r.r.r.r.r.ops) (by kernel_rfl) ?_
       refine EL.quick 1 [0, 1, 6, 7, 8, 11, 23, 24, 25, 47] [(0, .pointer (some ⟨a4, 0, none⟩)), (1, .pointer (some ⟨a5, 0, none⟩)), (6, .slice c0 a9.length c3), (7, .slice c1 b0.length c4), (8, .int .i64 (IntKind.i64.wrap (b2 - 1))), (11, .pointer (some ⟨c5, 0, none⟩)), (23, .slice (some b8) a0.length a3), (24, .int .i64 (a0.length : Int)), (25, .int .i64 a1), (47, .slice b9 a8.length c2)] (by kernel_rfl) ?_
       refine EL.of (EO.Y (YO.loadBox hS 3 rfl 60 0 13 (.agg #[.int .i32 ((a0.getD a1.toNat zS60).f0.f0), .int .i64 ((a0.getD a1.toNat zS60).f0.f1), .int .i64 ((a0.getD a1.toNat zS60).f0.f2), .slice a2.1 ((a0.getD a1.toNat zS60).f0.f3).length a2.2, .int .i32 ((a0.getD a1.toNat zS60).f0.f4.f0), .int .i32 ((a0.getD a1.toNat zS60).f0.f4.f1), .int .i32 ((a0.getD a1.toNat zS60).f0.f4.f2), .int .i32 ((a0.getD a1.toNat zS60).f0.f4.f3), .int .i64 ((a0.getD a1.toNat zS60).f0.f5), .int .i64 ((a0.getD a1.toNat zS60).f0.f6), .int .u32 ((a0.getD a1.toNat zS60).f0.f7), .int .i64 ((a0.getD a1.toNat zS60).f0.f8), .int .i32 ((a0.getD a1.toNat zS60).f1)]) 48 (by kernel_rfl) (by kernel_rfl) (by kernel_rfl) (by kernel_rfl)) ?_)
       obtain ⟨g6, m9, H⟩ := lt_out H
       refine EL.of (EO.lit hS kS60 60 58 1 #[(0, .agg #[.int .i32 ((a0.getD a1.toNat zS60).f0.f0), .int .i64 ((a0.getD a1.toNat zS60).f0.f1), .int .i64 ((a0.getD a1.toNat zS60).f0.f2), .slice a2.1 ((a0.getD a1.toNat zS60).f0.f3).length a2.2, .int .i32 ((a0.getD a1.toNat zS60).f0.f4.f0), .int .i32 ((a0.getD a1.toNat zS60).f0.f4.f1), .int .i32 ((a0.getD a1.toNat zS60).f0.f4.f2), .int .i32 ((a0.getD a1.toNat zS60).f0.f4.f3), .int .i64 ((a0.getD a1.toNat zS60).f0.f5), .int .i64 ((a0.getD a1.toNat zS60).f0.f6), .int .u32 ((a0.getD a1.toNat zS60).f0.f7), .int .i64 ((a0.getD a1.toNat zS60).f0.f8), .int .i32 ((a0.getD a1.toNat zS60).f1)])] [.int .i32 ((a0.getD a1.toNat zS60).f0.f0), .int .i64 ((a0.getD a1.toNat zS60).f0.f1), .int .i64 ((a0.getD a1.toNat zS60).f0.f2), .slice a2.1 ((a0.getD a1.toNat zS60).f0.f3).length a2.2, .int .i32 ((a0.getD a1.toNat zS60).f0.f4.f0), .int .i32 ((a0.getD a1.toNat zS60).f0.f4.f1), .int .i32 ((a0.getD a1.toNat zS60).f0.f4.f2), .int .i32 ((a0.getD a1.toNat zS60).f0.f4.f3), .int .i64 ((a0.getD a1.toNat zS60).f0.f5), .int .i64 ((a0.getD a1.toNat zS60).f0.f6), .int .u32 ((a0.getD a1.toNat zS60).f0.f7), .int .i64 ((a0.getD a1.toNat zS60).f0.f8), .int .i32 ((a0.getD a1.toNat zS60).f1)] g6 49 (by kernel_rfl) (by kernel_rfl) (by kernel_rfl) (fun _ => (by kernel_rfl)) (by rw [m9]; rfl) (by kernel_rfl) (fun w G hr => (by rw [m9]; exact ⟨[.int .i32 ((a0.getD a1.toNat zS60).f0.f0), .int .i64 ((a0.getD a1.toNat zS60).f0.f1), .int .i64 ((a0.getD a1.toNat zS60).f0.f2), .slice a2.1 ((a0.getD a1.toNat zS60).f0.f3).length a2.2, .int .i32 ((a0.getD a1.toNat zS60).f0.f4.f0), .int .i32 ((a0.getD a1.toNat zS60).f0.f4.f1), .int .i32 ((a0.getD a1.toNat zS60).f0.f4.f2), .int .i32 ((a0.getD a1.toNat zS60).f0.f4.f3), .int .i64 ((a0.getD a1.toNat zS60).f0.f5), .int .i64 ((a0.getD a1.toNat zS60).f0.f6), .int .u32 ((a0.getD a1.toNat zS60).f0.f7), .int .i64 ((a0.getD a1.toNat zS60).f0.f8), .int .i32 ((a0.getD a1.toNat zS60).f1)], [], rfl, ⟨[.int .i32 ((a0.getD a1.toNat zS60).f0.f0), .int .i64 ((a0.getD a1.toNat zS60).f0.f1), .int .i64 ((a0.getD a1.toNat zS60).f0.f2), .slice a2.1 ((a0.getD a1.toNat zS60).f0.f3).length a2.2, .int .i32 ((a0.getD a1.toNat zS60).f0.f4.f0), .int .i32 ((a0.getD a1.toNat zS60).f0.f4.f1), .int .i32 ((a0.getD a1.toNat zS60).f0.f4.f2), .int .i32 ((a0.getD a1.toNat zS60).f0.f4.f3), .int .i64 ((a0.getD a1.toNat zS60).f0.f5), .int .i64 ((a0.getD a1.toNat zS60).f0.f6), .int .u32 ((a0.getD a1.toNat zS60).f0.f7), .int .i64 ((a0.getD a1.toNat zS60).f0.f8)], [.int .i32 ((a0.getD a1.toNat zS60).f1)], rfl, ⟨[.int .i32 ((a0.getD a1.toNat zS60).f0.f0)], [.int .i64 ((a0.getD a1.toNat zS60).f0.f1), .int .i64 ((a0.getD a1.toNat zS60).f0.f2), .slice a2.1 ((a0.getD a1.toNat zS60).f0.f3).length a2.2, .int .i32 ((a0.getD a1.toNat zS60).f0.f4.f0), .int .i32 ((a0.getD a1.toNat zS60).f0.f4.f1), .int .i32 ((a0.getD a1.toNat zS60).f0.f4.f2), .int .i32 ((a0.getD a1.toNat zS60).f0.f4.f3), .int .i64 ((a0.getD a1.toNat zS60).f0.f5), .int .i64 ((a0.getD a1.toNat zS60).f0.f6), .int .u32 ((a0.getD a1.toNat zS60).f0.f7), .int .i64 ((a0.getD a1.toNat zS60).f0.f8)], rfl, rfl, ⟨[.int .i64 ((a0.getD a1.toNat zS60).f0.f1)], [.int .i64 ((a0.getD a1.toNat zS60).f0.f2), .slice a2.1 ((a0.getD a1.toNat zS60).f0.f3).length a2.2, .int .i32 ((a0.getD a1.toNat zS60).f0.f4.f0), .int .i32 ((a0.getD a1.toNat zS60).f0.f4.f1), .int .i32 ((a0.getD a1.toNat zS60).f0.f4.f2), .int .i32 ((a0.getD a1.toNat zS60).f0.f4.f3), .int .i64 ((a0.getD a1.toNat zS60).f0.f5), .int .i64 ((a0.getD a1.toNat zS60).f0.f6), .int .u32 ((a0.getD a1.toNat zS60).f0.f7), .int .i64 ((a0.getD a1.toNat zS60).f0.f8)], rfl, rfl, ⟨[.int .i64 ((a0.getD a1.toNat zS60).f0.f2)], [.slice a2.1 ((a0.getD a1.toNat zS60).f0.f3).length a2.2, .int .i32 ((a0.getD a1.toNat zS60).f0.f4.f0), .int .i32 ((a0.getD a1.toNat zS60).f0.f4.f1), .int .i32 ((a0.getD a1.toNat zS60).f0.f4.f2), .int .i32 ((a0.getD a1.toNat zS60).f0.f4.f3), .int .i64 ((a0.getD a1.toNat zS60).f0.f5), .int .i64 ((a0.getD a1.toNat zS60).f0.f6), .int .u32 ((a0.getD a1.toNat zS60).f0.f7), .int .i64 ((a0.getD a1.toNat zS60).f0.f8)], rfl, rfl, ⟨[.slice a2.1 ((a0.getD a1.toNat zS60).f0.f3).length a2.2], [.int .i32 ((a0.getD a1.toNat zS60).f0.f4.f0), .int .i32 ((a0.getD a1.toNat zS60).f0.f4.f1), .int .i32 ((a0.getD a1.toNat zS60).f0.f4.f2), .int .i32 ((a0.getD a1.toNat zS60).f0.f4.f3), .int .i64 ((a0.getD a1.toNat zS60).f0.f5), .int .i64 ((a0.getD a1.toNat zS60).f0.f6), .int .u32 ((a0.getD a1.toNat zS60).f0.f7), .int .i64 ((a0.getD a1.toNat zS60).f0.f8)], rfl, (hr _ (List.mem_of_getElem? (i := 0) rfl)), ⟨[.int .i32 ((a0.getD a1.toNat zS60).f0.f4.f0), .int .i32 ((a0.getD a1.toNat zS60).f0.f4.f1), .int .i32 ((a0.getD a1.toNat zS60).f0.f4.f2), .int .i32 ((a0.getD a1.toNat zS60).f0.f4.f3)], [.int .i64 ((a0.getD a1.toNat zS60).f0.f5), .int .i64 ((a0.getD a1.toNat zS60).f0.f6), .int .u32 ((a0.getD a1.toNat zS60).f0.f7), .int .i64 ((a0.getD a1.toNat zS60).f0.f8)], rfl, ⟨[.int .i32 ((a0.getD a1.toNat zS60).f0.f4.f0)], [.int .i32 ((a0.getD a1.toNat zS60).f0.f4.f1), .int .i32 ((a0.getD a1.toNat zS60).f0.f4.f2), .int .i32 ((a0.getD a1.toNat zS60).f0.f4.f3)], rfl, rfl, ⟨[.int .i32 ((a0.getD a1.toNat zS60).f0.f4.f1)], [.int .i32 ((a0.getD a1.toNat zS60).f0.f4.f2), .int .i32 ((a0.getD a1.toNat zS60).f0.f4.f3)], rfl, rfl, ⟨[.int .i32 ((a0.getD a1.toNat zS60).f0.f4.f2)], [.int .i32 ((a0.getD a1.toNat zS60).f0.f4.f3)], rfl, rfl, ⟨[.int .i32 ((a0.getD a1.toNat zS60).f0.f4.f3)], [], rfl, rfl, rfl⟩⟩⟩⟩, ⟨[.int .i64 ((a0.getD a1.toNat zS60).f0.f5)], [.int .i64 ((a0.getD a1.toNat zS60).f0.f6), .int .u32 ((a0.getD a1.toNat zS60).f0.f7), .int .i64 ((a0.getD a1.toNat zS60).f0.f8)], rfl, rfl, ⟨[.int .i64 ((a0.getD a1.toNat zS60).f0.f6)], [.int .u32 ((a0.getD a1.toNat zS60).f0.f7), .int .i64 ((a0.getD a1.toNat zS60).f0.f8)], rfl, rfl, ⟨[.int .u32 ((a0.getD a1.toNat zS60).f0.f7)], [.int .i64 ((a0.getD a1.toNat zS60).f0.f8)], rfl, rfl, ⟨[.int .i64 ((a0.getD a1.toNat zS60).f0.f8)], [], rfl, rfl, rfl⟩⟩⟩⟩⟩⟩⟩⟩⟩, ⟨[.int .i32 ((a0.getD a1.toNat zS60).f1)], [], rfl, rfl, rfl⟩⟩, rfl⟩)) ?_)
       intro m6 w hS
       obtain ⟨n3, H⟩ := ite_in H
       obtain ⟨e7, o1, H⟩ := lt_out H
       refine EL.of (EO.append hS 58 58 60 104 5 kS60 b9 c2 a8 rfl (some ⟨m6, 0, none⟩) 1 g6 (Rd.own 0 60 rfl) e7 o1 (fun i2 i5 => Ass.own 60 kS60 (some ⟨m6, 0, none⟩) 1 g6 :: Ass.box 91 a5 [.slice b3 a6.length b5, .slice b4 a7.length b6] :: Ass.deep 94 96 kS96 b3 b5 a6 :: Ass.own 3 (Kd.int .i64) b4 b6 a7 :: Ass.box 60 c5 [.int .i32 ((a0.getD a1.toNat zS60).f0.f0), .int .i64 ((a0.getD a1.toNat zS60).f0.f1), .int .i64 ((a0.getD a1.toNat zS60).f0.f2), .slice a2.1 ((a0.getD a1.toNat zS60).f0.f3).length a2.2, .int .i32 ((a0.getD a1.toNat zS60).f0.f4.f0), .int .i32 ((a0.getD a1.toNat zS60).f0.f4.f1), .int .i32 ((a0.getD a1.toNat zS60).f0.f4.f2), .int .i32 ((a0.getD a1.toNat zS60).f0.f4.f3), .int .i64 ((a0.getD a1.toNat zS60).f0.f5), .int .i64 ((a0.getD a1.toNat zS60).f0.f6), .int .u32 ((a0.getD a1.toNat zS60).f0.f7), .int .i64 ((a0.getD a1.toNat zS60).f0.f8), .int .i32 ((a0.getD a1.toNat zS60).f1)] :: Ass.own 60 kS60 i2 i5 e7 :: Ass.box 93 a4 [.slice (some b8) a0.length a3] :: Ass.own 60 kS60 (some b8) a3 a0 :: Ass.own 36 kS36 c0 c3 a9 :: Ass.own 36 kS36 c1 c4 b0 :: os) 50 (by kernel_rfl) (by kernel_rfl) (by kernel_rfl) (by kernel_rfl) n3 (fun _ _ => rfl) ?_)
       intro i2 i5 w hS
       refine EL.quick 1 [0, 1, 6, 7, 8, 9, 23, 24, 25] [(0, .pointer (some ⟨a4, 0, none⟩)), (1, .pointer (some ⟨a5, 0, none⟩)), (6, .slice c0 a9.length c3), (7, .slice c1 b0.length c4), (8, .int .i64 (IntKind.i64.wrap (b2 - 1))), (9, .slice i2 e7.length i5), (23, .slice (some b8) a0.length a3), (24, .int .i64 (a0.length : Int)), (25, .int .i64 a1)] (by kernel_rfl) ?_
       refine EL.done (by kernel_rfl) ?_
       refine EQ.pop ?_
       refine EQ.to ?_
       refine EQ.keep [0, 1, 6, 7, 8, 9, 23, 24, 25] [(0, .pointer (some ⟨a4, 0, none⟩)), (1, .pointer (some ⟨a5, 0, none⟩)), (6, .slice c0 a9.length c3), (7, .slice c1 b0.length c4), (8, .int .i64 (IntKind.i64.wrap (b2 - 1))), (9, .slice i2 e7.length i5), (23, .slice (some b8) a0.length a3), (24, .int .i64 (a0.length : Int)), (25, .int .i64 a1)] (by kernel_rfl) ?_
       exact fun a ha => ⟨e7, a9, b0, IntKind.i64.wrap (b2 - 1), c5, a2.1, a2.2, i2, i5, c0, c3, c1, c4, ha, (hS.re [9, 9, 5, 5, 5, 9, 9, 9, 9] [9] rfl (sub_cons 0 rfl (sub_tail (sub_self)))), H⟩
    ·obtain ⟨d3, d4, d5, e1, m3, j1, j2, e8, g0, e9, g1, f9, g2, ha, hS, H⟩ := hI
     rw [n6] at H
     (try dsimp only at H)
     refine EW.at ?_ a ha
     clear ha a
     refine EW.region (id := 12) (ops := Cd16.r.r.r.l.r.l.l.r.r.r.ops) (by kernel_rfl) ?_
     refine EL.quick 2 [0, 1, 6, 7, 8, 9, 23, 24, 25] [(0, .pointer (some ⟨a4, 0, none⟩)), (1, .pointer (some ⟨a5, 0, none⟩)), (6, .slice e9 d4.length g1), (7, .slice f9 d5.length g2), (8, .int .i64 e1), (9, .slice e8 d3.length g0), (23, .slice b7 a0.length a3), (24, .int .i64 (a0.length : Int)), (25, .int .i64 (IntKind.i64.wrap (a1 + 1)))] (by kernel_rfl) ?_
     refine EL.done (by kernel_rfl) ?_
     refine EQ.to ?_
     refine EQ.keep [0, 1, 6, 7, 8, 9, 23, 24, 25] [(0, .pointer (some ⟨a4, 0, none⟩)), (1, .pointer (some ⟨a5, 0, none⟩)), (6, .slice e9 d4.length g1), (7, .slice f9 d5.length g2), (8, .int .i64 e1), (9, .slice e8 d3.length g0), (23, .slice b7 a0.length a3), (24, .int .i64 (a0.length : Int)), (25, .int .i64 (IntKind.i64.wrap (a1 + 1)))] (by kernel_rfl) ?_
     exact fun a ha => ⟨n, Nat.lt_succ_self n, d3, d4, d5, e1, IntKind.i64.wrap (a1 + 1), e8, g0, e9, g1, f9, g2, ha, (hS.re [8, 8, 8, 8, 8, 8, 8, 8] [8] rfl (sub_tail (sub_self))), H⟩
   ·rw [if_neg g3] at H
    refine EW.exit (id := 0) (by kernel_rfl) ?_
    refine EQ.exitCode ?_
    refine EQ.exitTo ?_
    refine EQ.exitHere ?_
    refine EQ.to ?_
    refine EQ.keep [0, 6, 7, 8, 9] [(0, .pointer (some ⟨a4, 0, none⟩)), (6, .slice c0 a9.length c3), (7, .slice c1 b0.length c4), (8, .int .i64 b2), (9, .slice b9 a8.length c2)] (by kernel_rfl) ?_
    exact fun a ha => ⟨a8, a9, b0, b2, b9, c2, c0, c3, c1, c4, ha, (hS.re [7, 7, 7, 7, 7, 7, 7, 7] [] rfl (sub_self)), H⟩
 ·obtain ⟨c7, c8, c9, e0, d0, d1, d6, d8, d7, d9, ha, hS, H⟩ := hI
  rw [n5] at H
  (try dsimp only at H)
  refine EW.at ?_ a ha
  clear ha a
  refine EW.seq (x := Cd16.r.r.r.r.l) (y := Cd16.r.r.r.r.r) (by kernel_rfl) ?_
  refine EW.region (id := 13) (ops := Cd16.r.r.r.r.l.ops) (by kernel_rfl) ?_
  refine EL.quick 4 [6, 7, 8, 53, 55] [(6, .slice d6 c8.length d8), (7, .slice d7 c9.length d9), (8, .int .i64 e0), (53, .slice d0 c7.length d1), (55, .pointer (some ⟨a4, 0, none⟩))] (by kernel_rfl) ?_
  refine EL.of (EO.storeBox (os' := Ass.own 60 kS60 d0 d1 c7 :: Ass.box 93 a4 [.slice d0 c7.length d1] :: Ass.own 60 kS60 b7 a3 a0 :: Ass.box 91 a5 [.slice b3 a6.length b5, .slice b4 a7.length b6] :: Ass.deep 94 96 kS96 b3 b5 a6 :: Ass.own 3 (Kd.int .i64) b4 b6 a7 :: Ass.own 36 kS36 d6 d8 c8 :: Ass.own 36 kS36 d7 d9 c9 :: os) hS 1 rfl 58 0 (.slice d0 c7.length d1) [.slice d0 c7.length d1] (by kernel_rfl) (by kernel_rfl) (by kernel_rfl) (by kernel_rfl) (by kernel_rfl) (by kernel_rfl) rfl rfl ?_)
  intro w hS
  refine EL.done (by kernel_rfl) ?_
  refine EQ.code ?_
  refine EW.seq (x := Cd16.r.r.r.r.r.l) (y := Cd16.r.r.r.r.r.r) (by kernel_rfl) ?_
  refine EW.region (id := 14) (ops := Cd16.r.r.r.r.r.l.ops) (by kernel_rfl) ?_
  refine EL.quick 6 [6, 7, 8] [(6, .slice d6 c8.length d8), (7, .slice d7 c9.length d9), (8, .int .i64 e0)] (by kernel_rfl) ?_
  refine EL.done (by kernel_rfl) ?_
  refine EQ.code ?_
  refine EW.ret (by kernel_rfl) ?_
  simp only [Option.some.injEq, Prod.mk.injEq] at H
  obtain ⟨rfl, rfl, rfl, rfl⟩ := H
  exact EQ.leave (.tuple #[.slice d6 c8.length d8, .slice d7 c9.length d9, .int .i64 e0]) (by kernel_rfl) ⟨_, rfl, d0, d1, d6, d8, d7, d9, rfl, (hS.re [7, 7, 2, 7, 7, 7, 7, 7] [] rfl (sub_self))⟩

/-! ### (*confidant/park.Park).Len: function 17 -/
def park_Park_Len.f (K : Nat) (a0 : List S60) : Option Int := some (a0.length : Int)
set_option maxRecDepth 100000 in
theorem park_Park_Len.calls {K : Nat} {a0 : List S60} {a1 : Nat} {a2 : Option Addr} {a3 : Nat} {a4 : Int} {B w : World} {os : List Ass} {rs : List Ro} (H : park_Park_Len.f K a0 = some a4) (hS : St B w (Ass.box 93 a1 [.slice a2 a0.length a3] :: Ass.own 60 kS60 a2 a3 a0 :: os) (rs)) :
  Calls Try.prog 17 [.pointer (some ⟨a1, 0, none⟩)].toArray w (fun en w' => ∃ v, en = .returned v ∧ v = .int .i64 a4 ∧ St B w' (Ass.box 93 a1 [.slice a2 a0.length a3] :: Ass.own 60 kS60 a2 a3 a0 :: os) (rs)) := by
 unfold park_Park_Len.f at H
 refine calls_of_EW (args := [.pointer (some ⟨a1, 0, none⟩)]) (c := Cd17) 8 Try.func17 (by kernel_rfl) (by kernel_rfl) (by kernel_rfl) ?_
 refine EW.seq (x := Cd17.l) (y := Cd17.r) (by kernel_rfl) ?_
 refine EW.region (id := 0) (ops := Cd17.l.ops) (by kernel_rfl) ?_
 refine EL.quick 1 [0] [(0, .pointer (some ⟨a1, 0, none⟩))] (by kernel_rfl) ?_
 refine EL.done (by kernel_rfl) ?_
 refine EQ.code ?_
 refine EW.seq (x := Cd17.r.l) (y := Cd17.r.r) (by kernel_rfl) ?_
 refine EW.region (id := 1) (ops := Cd17.r.l.ops) (by kernel_rfl) ?_
 refine EL.quick 3 [5] [(5, .pointer (some ⟨a1, 0, none⟩))] (by kernel_rfl) ?_
 refine EL.of (EO.Y (YO.loadBox hS 0 rfl 58 0 1 (.slice a2 a0.length a3) 6 (by kernel_rfl) (by kernel_rfl) (by kernel_rfl) (by kernel_rfl)) ?_)
 refine EL.quick 2 [2] [(2, .int .i64 (a0.length : Int))] (by kernel_rfl) ?_
 refine EL.done (by kernel_rfl) ?_
 refine EQ.code ?_
 refine EW.ret (by kernel_rfl) ?_
 obtain rfl := Option.some.inj H
 exact EQ.leave (.int .i64 (a0.length : Int)) (by kernel_rfl) ⟨_, rfl, rfl, (hS.re [1, 1] [] rfl (sub_self))⟩

/-! ### (*confidant/park.Park).All: function 25 -/
def park_Park_All.l0 (K : Nat) (a0 : List S60) : Nat → (List S60) → Int → Option (List S60)
 | 0, _, _ => none
 | n + 1, a5, a2 => if a2 < (a0.length : Int) then (if 0 ≤ a2 then (b1 (park_copied.f K ((a0.getD a2.toNat zS60).f0.f0) ((a0.getD a2.toNat zS60).f0.f1) ((a0.getD a2.toNat zS60).f0.f2) ((a0.getD a2.toNat zS60).f0.f3) ((a0.getD a2.toNat zS60).f0.f4.f0) ((a0.getD a2.toNat zS60).f0.f4.f1) ((a0.getD a2.toNat zS60).f0.f4.f2) ((a0.getD a2.toNat zS60).f0.f4.f3) ((a0.getD a2.toNat zS60).f0.f5) ((a0.getD a2.toNat zS60).f0.f6) ((a0.getD a2.toNat zS60).f0.f7) ((a0.getD a2.toNat zS60).f0.f8) ((a0.getD a2.toNat zS60).f1)) fun (a1 : S60) => (lt ([(⟨(⟨a1.f0.f0, a1.f0.f1, a1.f0.f2, a1.f0.f3, (⟨a1.f0.f4.f0, a1.f0.f4.f1, a1.f0.f4.f2, a1.f0.f4.f3⟩ : S33), a1.f0.f5, a1.f0.f6, a1.f0.f7, a1.f0.f8⟩ : S36), a1.f1⟩ : S60)] : List S60) fun b8 => (if (a5.length + b8.length) * 104 ≤ 140737488355328 then (lt (a5 ++ b8) fun b4 => (park_Park_All.l0 K a0 n b4 (IntKind.i64.wrap (a2 + 1)))) else none))) else none) else (some a5)
def park_Park_All.f (K : Nat) (a0 : List S60) : Option (List S60) := park_Park_All.l0 K a0 K ([] : List S60) 0
set_option maxRecDepth 100000 in
theorem park_Park_All.calls {K : Nat} {a0 : List S60} {b0 : Nat} {a7 : Option Addr} {a3 : Nat} {c0 : List S60} {B w : World} {os : List Ass} {rs : List Ro} (H : park_Park_All.f K a0 = some c0) (hS : St B w (Ass.box 93 b0 [.slice a7 a0.length a3] :: Ass.own 60 kS60 a7 a3 a0 :: os) (rs)) :
  Calls Try.prog 25 [.pointer (some ⟨b0, 0, none⟩)].toArray w (fun en w' => ∃ v, en = .returned v ∧ ∃ c2 : Option Addr, ∃ c3 : Nat, v = .slice c2 c0.length c3 ∧ St B w' (Ass.box 93 b0 [.slice a7 a0.length a3] :: Ass.own 60 kS60 a7 a3 a0 :: Ass.own 60 kS60 c2 c3 c0 :: os) (rs)) := by
 unfold park_Park_All.f at H
 refine calls_of_EW (args := [.pointer (some ⟨b0, 0, none⟩)]) (c := Cd25) 22 Try.func25 (by kernel_rfl) (by kernel_rfl) (by kernel_rfl) ?_
 refine EW.seq (x := Cd25.l) (y := Cd25.r) (by kernel_rfl) ?_
 refine EW.region (id := 0) (ops := Cd25.l.ops) (by kernel_rfl) ?_
 refine EL.quick 1 [0] [(0, .pointer (some ⟨b0, 0, none⟩))] (by kernel_rfl) ?_
 refine EL.done (by kernel_rfl) ?_
 refine EQ.code ?_
 refine EW.seq (x := Cd25.r.l) (y := Cd25.r.r) (by kernel_rfl) ?_
 refine EW.region (id := 1) (ops := Cd25.r.l.ops) (by kernel_rfl) ?_
 refine EL.quick 1 [0, 3] [(0, .pointer (some ⟨b0, 0, none⟩)), (3, .slice none ([] : List S60).length 0)] (by kernel_rfl) ?_
 refine EL.done (by kernel_rfl) ?_
 refine EQ.code ?_
 refine EW.seq (x := Cd25.r.r.l) (y := Cd25.r.r.r) (by kernel_rfl) ?_
 refine EW.seq (x := Cd25.r.r.l.l) (y := Cd25.r.r.l.r) (by kernel_rfl) ?_
 refine EW.region (id := 2) (ops := Cd25.r.r.l.l.ops) (by kernel_rfl) ?_
 refine EL.quick 3 [3, 8] [(3, .slice none ([] : List S60).length 0), (8, .pointer (some ⟨b0, 0, none⟩))] (by kernel_rfl) ?_
 refine EL.of (EO.Y (YO.loadBox hS 0 rfl 58 0 1 (.slice a7 a0.length a3) 9 (by kernel_rfl) (by kernel_rfl) (by kernel_rfl) (by kernel_rfl)) ?_)
 refine EL.quick 2 [3, 9, 10, 11] [(3, .slice none ([] : List S60).length 0), (9, .slice a7 a0.length a3), (10, .int .i64 (a0.length : Int)), (11, .int .i64 0)] (by kernel_rfl) ?_
 refine EL.done (by kernel_rfl) ?_
 refine EQ.code ?_
 refine EW.block (x := Cd25.r.r.l.r.l) (id := 0) (by kernel_rfl) ?_
 have hS := St.nilO hS 60 kS60
 refine EW.loop (x := Cd25.r.r.l.r.l.l) (fun n a w => ∃ a5 : List S60, ∃ a2 : Int, ∃ a8 : Option Addr, ∃ a9 : Nat, Sat 22 [(3, .slice a8 a5.length a9), (9, .slice a7 a0.length a3), (10, .int .i64 (a0.length : Int)), (11, .int .i64 a2)] a ∧ St B w (Ass.box 93 b0 [.slice a7 a0.length a3] :: Ass.own 60 kS60 a7 a3 a0 :: Ass.own 60 kS60 a8 a9 a5 :: os) (rs) ∧ park_Park_All.l0 K a0 n a5 a2 = some c0) K (by kernel_rfl) ?_ (fun n a w hI => ?_)
 ·refine EQ.keep [3, 9, 10, 11] [(3, .slice none ([] : List S60).length 0), (9, .slice a7 a0.length a3), (10, .int .i64 (a0.length : Int)), (11, .int .i64 0)] (by kernel_rfl) ?_
  exact fun a ha => ⟨([] : List S60), 0, none, 0, ha, (hS.re [0, 2, 2] [] rfl (sub_self)), H⟩
 ·obtain ⟨a5, a2, a8, a9, ha, hS, H⟩ := hI
  obtain _ | n := n
  ·simp [park_Park_All.l0] at H
  rw [park_Park_All.l0.eq_2] at H
  refine EW.at ?_ a ha
  clear ha a
  refine EW.seq (x := Cd25.r.r.l.r.l.l.l) (y := Cd25.r.r.l.r.l.l.r) (by kernel_rfl) ?_
  refine EW.region (id := 3) (ops := Cd25.r.r.l.r.l.l.l.ops) (by kernel_rfl) ?_
  refine EL.quick 1 [3, 9, 10, 11, 12] [(3, .slice a8 a5.length a9), (9, .slice a7 a0.length a3), (10, .int .i64 (a0.length : Int)), (11, .int .i64 a2), (12, .bool (decide (a2 < (a0.length : Int))))] (by kernel_rfl) ?_
  refine EL.done (by kernel_rfl) ?_
  refine EQ.code ?_
  refine EW.seq (x := Cd25.r.r.l.r.l.l.r.l) (y := Cd25.r.r.l.r.l.l.r.r) (by kernel_rfl) ?_
  refine EW.condP (o := (.tmp 12)) (x := Cd25.r.r.l.r.l.l.r.l.l) (y := Cd25.r.r.l.r.l.l.r.l.r) (a2 < (a0.length : Int)) (by kernel_rfl) (by kernel_rfl) (fun b7 => ?_) (fun b7 => ?_)
  ·rw [if_pos b7] at H
   refine EW.skip (by kernel_rfl) ?_
   refine EQ.code ?_
   refine EW.seq (x := Cd25.r.r.l.r.l.l.r.r.l) (y := Cd25.r.r.l.r.l.l.r.r.r) (by kernel_rfl) ?_
   refine EW.block (x := Cd25.r.r.l.r.l.l.r.r.l.l) (id := 1) (by kernel_rfl) ?_
   refine EW.seq (x := Cd25.r.r.l.r.l.l.r.r.l.l.l) (y := Cd25.r.r.l.r.l.l.r.r.l.l.r) (by kernel_rfl) ?_
   refine EW.region (id := 4) (ops := Cd25.r.r.l.r.l.l.r.r.l.l.l.ops) (by kernel_rfl) ?_
   obtain ⟨c1, H⟩ := ite_in H
   obtain ⟨a6, rfl⟩ := St.rd_some hS (Rd.own 1 60 rfl) c1 b7
   refine EL.of (EO.Y (YO.idx 58 13 a6 a0.length a3 .i64 a2 13 (by kernel_rfl) (by kernel_rfl) (by kernel_rfl) (by kernel_rfl) c1 b7) ?_)
   refine EL.of (EO.loadPt hS kS60 a6 a3 a0 (Rd.own 1 60 rfl) zS60 cellsS60 factsS60 partsS60 a2 c1 b7 60 13 0 13 rfl (fun a4 => .agg #[.int .i32 ((a0.getD a2.toNat zS60).f0.f0), .int .i64 ((a0.getD a2.toNat zS60).f0.f1), .int .i64 ((a0.getD a2.toNat zS60).f0.f2), .slice a4.1 ((a0.getD a2.toNat zS60).f0.f3).length a4.2, .int .i32 ((a0.getD a2.toNat zS60).f0.f4.f0), .int .i32 ((a0.getD a2.toNat zS60).f0.f4.f1), .int .i32 ((a0.getD a2.toNat zS60).f0.f4.f2), .int .i32 ((a0.getD a2.toNat zS60).f0.f4.f3), .int .i64 ((a0.getD a2.toNat zS60).f0.f5), .int .i64 ((a0.getD a2.toNat zS60).f0.f6), .int .u32 ((a0.getD a2.toNat zS60).f0.f7), .int .i64 ((a0.getD a2.toNat zS60).f0.f8), .int .i32 ((a0.getD a2.toNat zS60).f1)]) 14 (by kernel_rfl) (by kernel_rfl) (by kernel_rfl) (fun a4 => (by kernel_rfl)) ?_)
   intro a4 hS
   refine EL.of (EO.alloc hS 60 (.agg #[.int .i32 0, .int .i64 0, .int .i64 0, .slice none ([] : List Int).length 0, .int .i32 0, .int .i32 0, .int .i32 0, .int .i32 0, .int .i64 0, .int .i64 0, .int .u32 0, .int .i64 0, .int .i32 0]) [.int .i32 0, .int .i64 0, .int .i64 0, .slice none ([] : List Int).length 0, .int .i32 0, .int .i32 0, .int .i32 0, .int .i32 0, .int .i64 0, .int .i64 0, .int .u32 0, .int .i64 0, .int .i32 0] 5 (by kernel_rfl) (by kernel_rfl) (by kernel_rfl) (by kernel_rfl) (by first | rfl | kernel_rfl) ?_)
   intro b9 w hS
   refine EL.of (EO.storeBox (os' := Ass.box 60 b9 [.int .i32 ((a0.getD a2.toNat zS60).f0.f0), .int .i64 ((a0.getD a2.toNat zS60).f0.f1), .int .i64 ((a0.getD a2.toNat zS60).f0.f2), .slice a4.1 ((a0.getD a2.toNat zS60).f0.f3).length a4.2, .int .i32 ((a0.getD a2.toNat zS60).f0.f4.f0), .int .i32 ((a0.getD a2.toNat zS60).f0.f4.f1), .int .i32 ((a0.getD a2.toNat zS60).f0.f4.f2), .int .i32 ((a0.getD a2.toNat zS60).f0.f4.f3), .int .i64 ((a0.getD a2.toNat zS60).f0.f5), .int .i64 ((a0.getD a2.toNat zS60).f0.f6), .int .u32 ((a0.getD a2.toNat zS60).f0.f7), .int .i64 ((a0.getD a2.toNat zS60).f0.f8), .int .i32 ((a0.getD a2.toNat zS60).f1)] :: Ass.box 93 b0 [.slice (some a6) a0.length a3] :: Ass.own 60 kS60 (some a6) a3 a0 :: Ass.own 60 kS60 a8 a9 a5 :: os) hS 0 rfl 60 0 (.agg #[.int .i32 ((a0.getD a2.toNat zS60).f0.f0), .int .i64 ((a0.getD a2.toNat zS60).f0.f1), .int .i64 ((a0.getD a2.toNat zS60).f0.f2), .slice a4.1 ((a0.getD a2.toNat zS60).f0.f3).length a4.2, .int .i32 ((a0.getD a2.toNat zS60).f0.f4.f0), .int .i32 ((a0.getD a2.toNat zS60).f0.f4.f1), .int .i32 ((a0.getD a2.toNat zS60).f0.f4.f2), .int .i32 ((a0.getD a2.toNat zS60).f0.f4.f3), .int .i64 ((a0.getD a2.toNat zS60).f0.f5), .int .i64 ((a0.getD a2.toNat zS60).f0.f6), .int .u32 ((a0.getD a2.toNat zS60).f0.f7), .int .i64 ((a0.getD a2.toNat zS60).f0.f8), .int .i32 ((a0.getD a2.toNat zS60).f1)]) [.int .i32 ((a0.getD a2.toNat zS60).f0.f0), .int .i64 ((a0.getD a2.toNat zS60).f0.f1), .int .i64 ((a0.getD a2.toNat zS60).f0.f2), .slice a4.1 ((a0.getD a2.toNat zS60).f0.f3).length a4.2, .int .i32 ((a0.getD a2.toNat zS60).f0.f4.f0), .int .i32 ((a0.getD a2.toNat zS60).f0.f4.f1), .int .i32 ((a0.getD a2.toNat zS60).f0.f4.f2), .int .i32 ((a0.getD a2.toNat zS60).f0.f4.f3), .int .i64 ((a0.getD a2.toNat zS60).f0.f5), .int .i64 ((a0.getD a2.toNat zS60).f0.f6), .int .u32 ((a0.getD a2.toNat zS60).f0.f7), .int .i64 ((a0.getD a2.toNat zS60).f0.f8), .int .i32 ((a0.getD a2.toNat zS60).f1)] (by kernel_rfl) (by kernel_rfl) (by kernel_rfl) (by kernel_rfl) (by kernel_rfl) (by kernel_rfl) rfl rfl ?_)
   intro w hS
   refine EL.done (by kernel_rfl) ?_
   refine EQ.code ?_
   refine EW.region (id := 5) (ops := Cd25.r.r.l.r.l.l.r.r.l.l.r.ops) (by kernel_rfl) ?_
   refine EL.quick 1 [5, 9, 10, 11, 15] [(5, .pointer (some ⟨b9, 0, none⟩)), (9, .slice (some a6) a0.length a3), (10, .int .i64 (a0.length : Int)), (11, .int .i64 a2), (15, .slice a8 a5.length a9)] (by kernel_rfl) ?_
   refine EL.of (EO.Y (YO.loadBox hS 0 rfl 60 0 13 (.agg #[.int .i32 ((a0.getD a2.toNat zS60).f0.f0), .int .i64 ((a0.getD a2.toNat zS60).f0.f1), .int .i64 ((a0.getD a2.toNat zS60).f0.f2), .slice a4.1 ((a0.getD a2.toNat zS60).f0.f3).length a4.2, .int .i32 ((a0.getD a2.toNat zS60).f0.f4.f0), .int .i32 ((a0.getD a2.toNat zS60).f0.f4.f1), .int .i32 ((a0.getD a2.toNat zS60).f0.f4.f2), .int .i32 ((a0.getD a2.toNat zS60).f0.f4.f3), .int .i64 ((a0.getD a2.toNat zS60).f0.f5), .int .i64 ((a0.getD a2.toNat zS60).f0.f6), .int .u32 ((a0.getD a2.toNat zS60).f0.f7), .int .i64 ((a0.getD a2.toNat zS60).f0.f8), .int .i32 ((a0.getD a2.toNat zS60).f1)]) 16 (by kernel_rfl) (by kernel_rfl) (by kernel_rfl) (by kernel_rfl)) ?_)
   have hS : St B _ (Ass.box 60 b9 [.int .i32 ((a0.getD a2.toNat zS60).f0.f0), .int .i64 ((a0.getD a2.toNat zS60).f0.f1), .int .i64 ((a0.getD a2.toNat zS60).f0.f2), .slice a4.1 ((a0.getD a2.toNat zS60).f0.f3).length a4.2, .int .i32 ((a0.getD a2.toNat zS60).f0.f4.f0), .int .i32 ((a0.getD a2.toNat zS60).f0.f4.f1), .int .i32 ((a0.getD a2.toNat zS60).f0.f4.f2), .int .i32 ((a0.getD a2.toNat zS60).f0.f4.f3), .int .i64 ((a0.getD a2.toNat zS60).f0.f5), .int .i64 ((a0.getD a2.toNat zS60).f0.f6), .int .u32 ((a0.getD a2.toNat zS60).f0.f7), .int .i64 ((a0.getD a2.toNat zS60).f0.f8), .int .i32 ((a0.getD a2.toNat zS60).f1)] :: Ass.box 93 b0 [.slice (some a6) a0.length a3] :: Ass.own 60 kS60 (some a6) a3 a0 :: Ass.own 60 kS60 a8 a9 a5 :: os) (Ro.sl (Kd.int .i32) a4.1 a4.2 ((a0.getD a2.toNat zS60).f0.f3) :: Ro.sl (Kd.int .i32) a4.1 a4.2 ((a0.getD a2.toNat zS60).f0.f3) :: rs) := hS.re [] [] rfl (sub_cons 0 rfl sub_self)
   obtain ⟨a1, c7, H⟩ := b1_out H
   refine EL.of (EO.callD 44 [.agg #[.int .i32 ((a0.getD a2.toNat zS60).f0.f0), .int .i64 ((a0.getD a2.toNat zS60).f0.f1), .int .i64 ((a0.getD a2.toNat zS60).f0.f2), .slice a4.1 ((a0.getD a2.toNat zS60).f0.f3).length a4.2, .int .i32 ((a0.getD a2.toNat zS60).f0.f4.f0), .int .i32 ((a0.getD a2.toNat zS60).f0.f4.f1), .int .i32 ((a0.getD a2.toNat zS60).f0.f4.f2), .int .i32 ((a0.getD a2.toNat zS60).f0.f4.f3), .int .i64 ((a0.getD a2.toNat zS60).f0.f5), .int .i64 ((a0.getD a2.toNat zS60).f0.f6), .int .u32 ((a0.getD a2.toNat zS60).f0.f7), .int .i64 ((a0.getD a2.toNat zS60).f0.f8), .int .i32 ((a0.getD a2.toNat zS60).f1)]] _ 17 (by kernel_rfl) (by kernel_rfl) (by kernel_rfl) (park_copied.calls c7 hS) ?_)
   rintro v w ⟨b2, b3, rfl, hS⟩
   obtain ⟨b8, c5, H⟩ := lt_out H
   refine EL.of (EO.lit hS kS60 60 58 1 #[(0, .agg #[.int .i32 a1.f0.f0, .int .i64 a1.f0.f1, .int .i64 a1.f0.f2, .slice b2 a1.f0.f3.length b3, .int .i32 a1.f0.f4.f0, .int .i32 a1.f0.f4.f1, .int .i32 a1.f0.f4.f2, .int .i32 a1.f0.f4.f3, .int .i64 a1.f0.f5, .int .i64 a1.f0.f6, .int .u32 a1.f0.f7, .int .i64 a1.f0.f8, .int .i32 a1.f1])] [.int .i32 a1.f0.f0, .int .i64 a1.f0.f1, .int .i64 a1.f0.f2, .slice b2 a1.f0.f3.length b3, .int .i32 a1.f0.f4.f0, .int .i32 a1.f0.f4.f1, .int .i32 a1.f0.f4.f2, .int .i32 a1.f0.f4.f3, .int .i64 a1.f0.f5, .int .i64 a1.f0.f6, .int .u32 a1.f0.f7, .int .i64 a1.f0.f8, .int .i32 a1.f1] b8 18 (by kernel_rfl) (by kernel_rfl) (by kernel_rfl) (fun _ => (by kernel_rfl)) (by rw [c5]; rfl) (by kernel_rfl) (fun w G hr => (by rw [c5]; exact ⟨[.int .i32 a1.f0.f0, .int .i64 a1.f0.f1, .int .i64 a1.f0.f2, .slice b2 a1.f0.f3.length b3, .int .i32 a1.f0.f4.f0, .int .i32 a1.f0.f4.f1, .int .i32 a1.f0.f4.f2, .int .i32 a1.f0.f4.f3, .int .i64 a1.f0.f5, .int .i64 a1.f0.f6, .int .u32 a1.f0.f7, .int .i64 a1.f0.f8, .int .i32 a1.f1], [], rfl, ⟨[.int .i32 a1.f0.f0, .int .i64 a1.f0.f1, .int .i64 a1.f0.f2, .slice b2 a1.f0.f3.length b3, .int .i32 a1.f0.f4.f0, .int .i32 a1.f0.f4.f1, .int .i32 a1.f0.f4.f2, .int .i32 a1.f0.f4.f3, .int .i64 a1.f0.f5, .int .i64 a1.f0.f6, .int .u32 a1.f0.f7, .int .i64 a1.f0.f8], [.int .i32 a1.f1], rfl, ⟨[.int .i32 a1.f0.f0], [.int .i64 a1.f0.f1, .int .i64 a1.f0.f2, .slice b2 a1.f0.f3.length b3, .int .i32 a1.f0.f4.f0, .int .i32 a1.f0.f4.f1, .int .i32 a1.f0.f4.f2, .int .i32 a1.f0.f4.f3, .int .i64 a1.f0.f5, .int .i64 a1.f0.f6, .int .u32 a1.f0.f7, .int .i64 a1.f0.f8], rfl, rfl, ⟨[.int .i64 a1.f0.f1], [.int .i64 a1.f0.f2, .slice b2 a1.f0.f3.length b3, .int .i32 a1.f0.f4.f0, .int .i32 a1.f0.f4.f1, .int .i32 a1.f0.f4.f2, .int .i32 a1.f0.f4.f3, .int .i64 a1.f0.f5, .int .i64 a1.f0.f6, .int .u32 a1.f0.f7, .int .i64 a1.f0.f8], rfl, rfl, ⟨[.int .i64 a1.f0.f2], [.slice b2 a1.f0.f3.length b3, .int .i32 a1.f0.f4.f0, .int .i32 a1.f0.f4.f1, .int .i32 a1.f0.f4.f2, .int .i32 a1.f0.f4.f3, .int .i64 a1.f0.f5, .int .i64 a1.f0.f6, .int .u32 a1.f0.f7, .int .i64 a1.f0.f8], rfl, rfl, ⟨[.slice b2 a1.f0.f3.length b3], [.int .i32 a1.f0.f4.f0, .int .i32 a1.f0.f4.f1, .int .i32 a1.f0.f4.f2, .int .i32 a1.f0.f4.f3, .int .i64 a1.f0.f5, .int .i64 a1.f0.f6, .int .u32 a1.f0.f7, .int .i64 a1.f0.f8], rfl, (hr _ (List.mem_of_getElem? (i := 0) rfl)), ⟨[.int .i32 a1.f0.f4.f0, .int .i32 a1.f0.f4.f1, .int .i32 a1.f0.f4.f2, .int .i32 a1.f0.f4.f3], [.int .i64 a1.f0.f5, .int .i64 a1.f0.f6, .int .u32 a1.f0.f7, .int .i64 a1.f0.f8], rfl, ⟨[.int .i32 a1.f0.f4.f0], [.int .i32 a1.f0.f4.f1, .int .i32 a1.f0.f4.f2, .int .i32 a1.f0.f4.f3], rfl, rfl, ⟨[.int .i32 a1.f0.f4.f1], [.int .i32 a1.f0.f4.f2, .int .i32 a1.f0.f4.f3], rfl, rfl, ⟨[.int .i32 a1.f0.f4.f2], [.int .i32 a1.f0.f4.f3], rfl, rfl, ⟨[.int .i32 a1.f0.f4.f3], [], rfl, rfl, rfl⟩⟩⟩⟩, ⟨[.int .i64 a1.f0.f5], [.int .i64 a1.f0.f6, .int .u32 a1.f0.f7, .int .i64 a1.f0.f8], rfl, rfl, ⟨[.int .i64 a1.f0.f6], [.int .u32 a1.f0.f7, .int .i64 a1.f0.f8], rfl, rfl, ⟨[.int .u32 a1.f0.f7], [.int .i64 a1.f0.f8], rfl, rfl, ⟨[.int .i64 a1.f0.f8], [], rfl, rfl, rfl⟩⟩⟩⟩⟩⟩⟩⟩⟩, ⟨[.int .i32 a1.f1], [], rfl, rfl, rfl⟩⟩, rfl⟩)) ?_)
   intro c4 w hS
   obtain ⟨c6, H⟩ := ite_in H
   obtain ⟨b4, c8, H⟩ := lt_out H
   refine EL.of (EO.append hS 58 58 60 104 4 kS60 a8 a9 a5 rfl (some ⟨c4, 0, none⟩) 1 b8 (Rd.own 0 60 rfl) b4 c8 (fun b5 b6 => Ass.own 60 kS60 (some ⟨c4, 0, none⟩) 1 b8 :: Ass.box 60 b9 [.int .i32 ((a0.getD a2.toNat zS60).f0.f0), .int .i64 ((a0.getD a2.toNat zS60).f0.f1), .int .i64 ((a0.getD a2.toNat zS60).f0.f2), .slice a4.1 ((a0.getD a2.toNat zS60).f0.f3).length a4.2, .int .i32 ((a0.getD a2.toNat zS60).f0.f4.f0), .int .i32 ((a0.getD a2.toNat zS60).f0.f4.f1), .int .i32 ((a0.getD a2.toNat zS60).f0.f4.f2), .int .i32 ((a0.getD a2.toNat zS60).f0.f4.f3), .int .i64 ((a0.getD a2.toNat zS60).f0.f5), .int .i64 ((a0.getD a2.toNat zS60).f0.f6), .int .u32 ((a0.getD a2.toNat zS60).f0.f7), .int .i64 ((a0.getD a2.toNat zS60).f0.f8), .int .i32 ((a0.getD a2.toNat zS60).f1)] :: Ass.box 93 b0 [.slice (some a6) a0.length a3] :: Ass.own 60 kS60 (some a6) a3 a0 :: Ass.own 60 kS60 b5 b6 b4 :: os) 19 (by kernel_rfl) (by kernel_rfl) (by kernel_rfl) (by kernel_rfl) c6 (fun _ _ => rfl) ?_)
   intro b5 b6 w hS
   refine EL.quick 1 [3, 9, 10, 11] [(3, .slice b5 b4.length b6), (9, .slice (some a6) a0.length a3), (10, .int .i64 (a0.length : Int)), (11, .int .i64 a2)] (by kernel_rfl) ?_
   refine EL.done (by kernel_rfl) ?_
   refine EQ.pop ?_
   refine EQ.code ?_
   refine EW.region (id := 6) (ops := Cd25.r.r.l.r.l.l.r.r.r.ops) (by kernel_rfl) ?_
   refine EL.quick 2 [3, 9, 10, 11] [(3, .slice b5 b4.length b6), (9, .slice (some a6) a0.length a3), (10, .int .i64 (a0.length : Int)), (11, .int .i64 (IntKind.i64.wrap (a2 + 1)))] (by kernel_rfl) ?_
   refine EL.done (by kernel_rfl) ?_
   refine EQ.to ?_
   refine EQ.keep [3, 9, 10, 11] [(3, .slice b5 b4.length b6), (9, .slice (some a6) a0.length a3), (10, .int .i64 (a0.length : Int)), (11, .int .i64 (IntKind.i64.wrap (a2 + 1)))] (by kernel_rfl) ?_
   exact fun a ha => ⟨n, Nat.lt_succ_self n, b4, IntKind.i64.wrap (a2 + 1), b5, b6, ha, (hS.re [4, 4, 4] [3, 3] rfl (sub_tail (sub_tail (sub_tail (sub_self))))), H⟩
  ·rw [if_neg b7] at H
   refine EW.exit (id := 0) (by kernel_rfl) ?_
   refine EQ.exitCode ?_
   refine EQ.exitTo ?_
   refine EQ.exitHere ?_
   refine EQ.code ?_
   refine EW.seq (x := Cd25.r.r.r.l) (y := Cd25.r.r.r.r) (by kernel_rfl) ?_
   refine EW.region (id := 7) (ops := Cd25.r.r.r.l.ops) (by kernel_rfl) ?_
   refine EL.quick 2 [2] [(2, .slice a8 a5.length a9)] (by kernel_rfl) ?_
   refine EL.done (by kernel_rfl) ?_
   refine EQ.code ?_
   refine EW.ret (by kernel_rfl) ?_
   obtain rfl := Option.some.inj H
   exact EQ.leave (.slice a8 a5.length a9) (by kernel_rfl) ⟨_, rfl, a8, a9, rfl, (hS.re [2, 2, 2] [] rfl (sub_self))⟩

/-! ### confidant/confidantlaw20.known: function 10 -/
def confidantlaw20_known.f (K : Nat)  : Option Bool := lt ([3] : List Int) fun a8 => (b2 (future_New.f K a8) fun (e1 : List (List S96)) (a9 : List Int) => (b1 (park_New.f K) fun (c4 : List S60) => (b3 (future_Futures_Make.f K e1 a9 0 0) fun (g3 : List (List S96)) (b5 : Int) (j0 : Bool) => (b3 (future_Futures_Make.f K g3 a9 0 0) fun (g4 : List (List S96)) (a1 : Int) (j1 : Bool) => (b2 (future_Futures_Keep.f K g4 a9 b5 1) fun (b9 : List (List S96)) (j2 : Bool) => (b1 (park_Park_Add.f K c4 5 0 0 ([] : List Int) 0 0 0 0 0 0 0 0 b5) fun (e2 : List S60) => (b1 (park_Park_Add.f K e2 6 0 0 ([] : List Int) 0 0 0 0 0 0 0 0 a1) fun (e3 : List S60) => (b1 (park_Park_Add.f K e3 7 0 0 ([] : List Int) 0 0 0 0 0 0 0 0 a1) fun (e8 : List S60) => (b4 (park_Park_Look.f K e8 b9 a9 2) fun (c5 : List S60) (a5 : List S36) (a2 : List S36) (a3 : Int) => (if (a5.length : Int) = 1 then (if (0 : Int) < (a5.length : Int) then (if ((a5.getD (0 : Int).toNat zS36).f0) = 5 then (if (a2.length : Int) = 1 then (if (0 : Int) < (a2.length : Int) then (if ((a2.getD (0 : Int).toNat zS36).f0) = 7 then (if a3 = 0 then (b1 (park_Park_Len.f K c5) fun (c6 : Int) => (if c6 = 1 then (b1 (park_Park_All.f K c5) fun (c7 : List S60) => (if (c7.length : Int) = 1 then (b1 (park_Park_All.f K c5) fun (c2 : List S60) => (if (0 : Int) < (c2.length : Int) then (some (decide (((c2.getD (0 : Int).toNat zS60).f1) = a1))) else none)) else (some false))) else (some false))) else (some false)) else (some false)) else none) else (some false)) else (some false)) else none) else (some false)))))))))))
set_option maxRecDepth 100000 in
theorem confidantlaw20_known.calls {K : Nat} {g5 : Bool} {B w : World} {os : List Ass} {rs : List Ro} (H : confidantlaw20_known.f K = some g5) (hS : St B w (os) (rs)) :
  Calls Try.prog 10 [].toArray w (fun en w' => ∃ v, en = .returned v ∧ v = .bool (g5) ∧ St B w' (os) (rs)) := by
 unfold confidantlaw20_known.f at H
 refine calls_of_EW (args := []) (c := Cd10) 97 Try.func10 (by kernel_rfl) (by kernel_rfl) (by kernel_rfl) ?_
 refine EW.seq (x := Cd10.l) (y := Cd10.r) (by kernel_rfl) ?_
 refine EW.region (id := 0) (ops := Cd10.l.ops) (by kernel_rfl) ?_
 refine EL.quick 1 [] [] (by kernel_rfl) ?_
 refine EL.done (by kernel_rfl) ?_
 refine EQ.code ?_
 refine EW.seq (x := Cd10.r.l) (y := Cd10.r.r) (by kernel_rfl) ?_
 refine EW.region (id := 1) (ops := Cd10.r.l.ops) (by kernel_rfl) ?_
 obtain ⟨a8, g2, H⟩ := lt_out H
 refine EL.of (EO.lit hS (Kd.int .i64) 3 66 1 #[(0, .int .i64 3)] [.int .i64 3] a8 10 (by kernel_rfl) (by kernel_rfl) (by kernel_rfl) (fun _ => (by kernel_rfl)) (by rw [g2]; rfl) (by kernel_rfl) (fun w G hr => (by rw [g2]; exact ⟨[.int .i64 3], [], rfl, rfl, rfl⟩)) ?_)
 intro b0 w hS
 have hS := St.fr hS 0 rfl
 have hS : St B _ (os) (Ro.sl (Kd.int .i64) (some ⟨b0, 0, none⟩) 1 a8 :: Ro.sl (Kd.int .i64) (some ⟨b0, 0, none⟩) 1 a8 :: rs) := hS.re [] [] rfl (sub_cons 0 rfl sub_self)
 obtain ⟨e1, a9, g8, H⟩ := b2_out H
 refine EL.of (EO.callD 11 [.slice (some ⟨b0, 0, none⟩) a8.length 1] _ 11 (by kernel_rfl) (by kernel_rfl) (by kernel_rfl) (future_New.calls g8 hS) ?_)
 rintro v w ⟨a4, e9, f6, b6, b7, rfl, hS⟩
 refine EL.quick 1 [1] [(1, .pointer (some ⟨a4, 0, none⟩))] (by kernel_rfl) ?_
 refine EL.done (by kernel_rfl) ?_
 refine EQ.code ?_
 refine EW.seq (x := Cd10.r.r.l) (y := Cd10.r.r.r) (by kernel_rfl) ?_
 refine EW.region (id := 2) (ops := Cd10.r.r.l.ops) (by kernel_rfl) ?_
 obtain ⟨c4, g9, H⟩ := b1_out H
 refine EL.of (EO.callD 12 [] _ 12 (by kernel_rfl) (by kernel_rfl) (by kernel_rfl) (park_New.calls g9 hS) ?_)
 rintro v w ⟨a0, c8, c9, rfl, hS⟩
 refine EL.quick 1 [1, 2] [(1, .pointer (some ⟨a4, 0, none⟩)), (2, .pointer (some ⟨a0, 0, none⟩))] (by kernel_rfl) ?_
 refine EL.done (by kernel_rfl) ?_
 refine EQ.code ?_
 refine EW.seq (x := Cd10.r.r.r.l) (y := Cd10.r.r.r.r) (by kernel_rfl) ?_
 refine EW.seq (x := Cd10.r.r.r.l.l) (y := Cd10.r.r.r.l.r) (by kernel_rfl) ?_
 refine EW.region (id := 3) (ops := Cd10.r.r.r.l.l.ops) (by kernel_rfl) ?_
 refine EL.quick 6 [1, 2, 18] [(1, .pointer (some ⟨a4, 0, none⟩)), (2, .pointer (some ⟨a0, 0, none⟩)), (18, .bool (false))] (by kernel_rfl) ?_
 refine EL.done (by kernel_rfl) ?_
 refine EQ.code ?_
 refine EW.condF (o := (.tmp 18)) (x := Cd10.r.r.r.l.r.l) (y := Cd10.r.r.r.l.r.r) (by kernel_rfl) (by kernel_rfl) ?_
 refine EW.skip (by kernel_rfl) ?_
 refine EQ.code ?_
 refine EW.seq (x := Cd10.r.r.r.r.l) (y := Cd10.r.r.r.r.r) (by kernel_rfl) ?_
 refine EW.region (id := 5) (ops := Cd10.r.r.r.r.l.ops) (by kernel_rfl) ?_
 refine EL.quick 1 [1, 2, 20] [(1, .pointer (some ⟨a4, 0, none⟩)), (2, .pointer (some ⟨a0, 0, none⟩)), (20, .pointer (some ⟨a4, 0, none⟩))] (by kernel_rfl) ?_
 have hS : St B _ (Ass.box 91 a4 [.slice e9 e1.length f6, .slice b6 a9.length b7] :: Ass.deep 94 96 kS96 e9 f6 e1 :: Ass.own 3 (Kd.int .i64) b6 b7 a9 :: Ass.box 93 a0 [.slice c8 c4.length c9] :: Ass.own 60 kS60 c8 c9 c4 :: os) (Ro.sl (Kd.int .i64) (some ⟨b0, 0, none⟩) 1 a8 :: Ro.sl (Kd.int .i64) (some ⟨b0, 0, none⟩) 1 a8 :: rs) := hS.re [4, 4, 4] [] rfl sub_self
 obtain ⟨g3, b5, j0, i0, H⟩ := b3_out H
 refine EL.of (EO.callD 13 [.pointer (some ⟨a4, 0, none⟩), .int .i64 0, .int .i64 0] _ 21 (by kernel_rfl) (by kernel_rfl) (by kernel_rfl) (future_Futures_Make.calls i0 hS) ?_)
 rintro v w ⟨j3, j7, rfl, hS⟩
 refine EL.quick 5 [1, 2, 3] [(1, .pointer (some ⟨a4, 0, none⟩)), (2, .pointer (some ⟨a0, 0, none⟩)), (3, .int .i32 b5)] (by kernel_rfl) ?_
 refine EL.done (by kernel_rfl) ?_
 refine EQ.code ?_
 refine EW.seq (x := Cd10.r.r.r.r.r.l) (y := Cd10.r.r.r.r.r.r) (by kernel_rfl) ?_
 refine EW.region (id := 6) (ops := Cd10.r.r.r.r.r.l.ops) (by kernel_rfl) ?_
 refine EL.quick 1 [1, 2, 3, 25] [(1, .pointer (some ⟨a4, 0, none⟩)), (2, .pointer (some ⟨a0, 0, none⟩)), (3, .int .i32 b5), (25, .pointer (some ⟨a4, 0, none⟩))] (by kernel_rfl) ?_
 obtain ⟨g4, a1, j1, i1, H⟩ := b3_out H
 refine EL.of (EO.callD 13 [.pointer (some ⟨a4, 0, none⟩), .int .i64 0, .int .i64 0] _ 26 (by kernel_rfl) (by kernel_rfl) (by kernel_rfl) (future_Futures_Make.calls i1 hS) ?_)
 rintro v w ⟨j4, j8, rfl, hS⟩
 refine EL.quick 5 [1, 2, 3, 5] [(1, .pointer (some ⟨a4, 0, none⟩)), (2, .pointer (some ⟨a0, 0, none⟩)), (3, .int .i32 b5), (5, .int .i32 a1)] (by kernel_rfl) ?_
 refine EL.done (by kernel_rfl) ?_
 refine EQ.code ?_
 refine EW.seq (x := Cd10.r.r.r.r.r.r.l) (y := Cd10.r.r.r.r.r.r.r) (by kernel_rfl) ?_
 refine EW.region (id := 7) (ops := Cd10.r.r.r.r.r.r.l.ops) (by kernel_rfl) ?_
 refine EL.quick 2 [1, 2, 3, 5, 29, 30] [(1, .pointer (some ⟨a4, 0, none⟩)), (2, .pointer (some ⟨a0, 0, none⟩)), (3, .int .i32 b5), (5, .int .i32 a1), (29, .pointer (some ⟨a4, 0, none⟩)), (30, .int .i32 b5)] (by kernel_rfl) ?_
 obtain ⟨b9, j2, i2, H⟩ := b2_out H
 refine EL.of (EO.callD 14 [.pointer (some ⟨a4, 0, none⟩), .int .i32 b5, .int .i32 1] _ 31 (by kernel_rfl) (by kernel_rfl) (by kernel_rfl) (future_Futures_Keep.calls i2 hS) ?_)
 rintro v w ⟨c0, c1, rfl, hS⟩
 refine EL.done (by kernel_rfl) ?_
 refine EQ.code ?_
 refine EW.seq (x := Cd10.r.r.r.r.r.r.r.l) (y := Cd10.r.r.r.r.r.r.r.r) (by kernel_rfl) ?_
 refine EW.region (id := 8) (ops := Cd10.r.r.r.r.r.r.r.l.ops) (by kernel_rfl) ?_
 refine EL.quick 3 [1, 2, 5, 32, 33, 34] [(1, .pointer (some ⟨a4, 0, none⟩)), (2, .pointer (some ⟨a0, 0, none⟩)), (5, .int .i32 a1), (32, .pointer (some ⟨a0, 0, none⟩)), (33, .agg #[.int .i32 5, .int .i64 0, .int .i64 0, .slice none ([] : List Int).length 0, .int .i32 0, .int .i32 0, .int .i32 0, .int .i32 0, .int .i64 0, .int .i64 0, .int .u32 0, .int .i64 0]), (34, .int .i32 b5)] (by kernel_rfl) ?_
 have hS := St.nilR hS (Kd.int .i32)
 have hS : St B _ (Ass.box 93 a0 [.slice c8 c4.length c9] :: Ass.own 60 kS60 c8 c9 c4 :: Ass.box 91 a4 [.slice c0 b9.length c1, .slice b6 a9.length b7] :: Ass.deep 94 96 kS96 c0 c1 b9 :: Ass.own 3 (Kd.int .i64) b6 b7 a9 :: os) (Ro.sl (Kd.int .i32) none 0 ([] : List Int) :: Ro.sl (Kd.int .i32) none 0 ([] : List Int) :: Ro.sl (Kd.int .i64) (some ⟨b0, 0, none⟩) 1 a8 :: Ro.sl (Kd.int .i64) (some ⟨b0, 0, none⟩) 1 a8 :: rs) := hS.re [4, 4] [] rfl (sub_cons 0 rfl sub_self)
 obtain ⟨e2, i3, H⟩ := b1_out H
 refine EL.of (EO.callD 15 [.pointer (some ⟨a0, 0, none⟩), .agg #[.int .i32 5, .int .i64 0, .int .i64 0, .slice none ([] : List Int).length 0, .int .i32 0, .int .i32 0, .int .i32 0, .int .i32 0, .int .i64 0, .int .i64 0, .int .u32 0, .int .i64 0], .int .i32 b5] _ 35 (by kernel_rfl) (by kernel_rfl) (by kernel_rfl) (park_Park_Add.calls i3 hS) ?_)
 rintro v w ⟨f2, f7, rfl, hS⟩
 refine EL.done (by kernel_rfl) ?_
 refine EQ.code ?_
 refine EW.seq (x := Cd10.r.r.r.r.r.r.r.r.l) (y := Cd10.r.r.r.r.r.r.r.r.r) (by kernel_rfl) ?_
 refine EW.region (id := 9) (ops := Cd10.r.r.r.r.r.r.r.r.l.ops) (by kernel_rfl) ?_
 refine EL.quick 3 [1, 2, 5, 36, 37, 38] [(1, .pointer (some ⟨a4, 0, none⟩)), (2, .pointer (some ⟨a0, 0, none⟩)), (5, .int .i32 a1), (36, .pointer (some ⟨a0, 0, none⟩)), (37, .agg #[.int .i32 6, .int .i64 0, .int .i64 0, .slice none ([] : List Int).length 0, .int .i32 0, .int .i32 0, .int .i32 0, .int .i32 0, .int .i64 0, .int .i64 0, .int .u32 0, .int .i64 0]), (38, .int .i32 a1)] (by kernel_rfl) ?_
 have hS : St B _ (Ass.box 93 a0 [.slice f2 e2.length f7] :: Ass.own 60 kS60 f2 f7 e2 :: Ass.box 91 a4 [.slice c0 b9.length c1, .slice b6 a9.length b7] :: Ass.deep 94 96 kS96 c0 c1 b9 :: Ass.own 3 (Kd.int .i64) b6 b7 a9 :: os) (Ro.sl (Kd.int .i32) none 0 ([] : List Int) :: Ro.sl (Kd.int .i32) none 0 ([] : List Int) :: Ro.sl (Kd.int .i32) none 0 ([] : List Int) :: Ro.sl (Kd.int .i64) (some ⟨b0, 0, none⟩) 1 a8 :: Ro.sl (Kd.int .i64) (some ⟨b0, 0, none⟩) 1 a8 :: rs) := hS.re [1, 1] [] rfl (sub_cons 0 rfl sub_self)
 obtain ⟨e3, i4, H⟩ := b1_out H
 refine EL.of (EO.callD 15 [.pointer (some ⟨a0, 0, none⟩), .agg #[.int .i32 6, .int .i64 0, .int .i64 0, .slice none ([] : List Int).length 0, .int .i32 0, .int .i32 0, .int .i32 0, .int .i32 0, .int .i64 0, .int .i64 0, .int .u32 0, .int .i64 0], .int .i32 a1] _ 39 (by kernel_rfl) (by kernel_rfl) (by kernel_rfl) (park_Park_Add.calls i4 hS) ?_)
 rintro v w ⟨f4, f8, rfl, hS⟩
 refine EL.done (by kernel_rfl) ?_
 refine EQ.code ?_
 refine EW.seq (x := Cd10.r.r.r.r.r.r.r.r.r.l) (y := Cd10.r.r.r.r.r.r.r.r.r.r) (by kernel_rfl) ?_
 refine EW.region (id := 10) (ops := Cd10.r.r.r.r.r.r.r.r.r.l.ops) (by kernel_rfl) ?_
 refine EL.quick 3 [1, 2, 5, 40, 41, 42] [(1, .pointer (some ⟨a4, 0, none⟩)), (2, .pointer (some ⟨a0, 0, none⟩)), (5, .int .i32 a1), (40, .pointer (some ⟨a0, 0, none⟩)), (41, .agg #[.int .i32 7, .int .i64 0, .int .i64 0, .slice none ([] : List Int).length 0, .int .i32 0, .int .i32 0, .int .i32 0, .int .i32 0, .int .i64 0, .int .i64 0, .int .u32 0, .int .i64 0]), (42, .int .i32 a1)] (by kernel_rfl) ?_
 have hS : St B _ (Ass.box 93 a0 [.slice f4 e3.length f8] :: Ass.own 60 kS60 f4 f8 e3 :: Ass.box 91 a4 [.slice c0 b9.length c1, .slice b6 a9.length b7] :: Ass.deep 94 96 kS96 c0 c1 b9 :: Ass.own 3 (Kd.int .i64) b6 b7 a9 :: os) (Ro.sl (Kd.int .i32) none 0 ([] : List Int) :: Ro.sl (Kd.int .i32) none 0 ([] : List Int) :: Ro.sl (Kd.int .i32) none 0 ([] : List Int) :: Ro.sl (Kd.int .i32) none 0 ([] : List Int) :: Ro.sl (Kd.int .i64) (some ⟨b0, 0, none⟩) 1 a8 :: Ro.sl (Kd.int .i64) (some ⟨b0, 0, none⟩) 1 a8 :: rs) := hS.re [1, 1] [] rfl (sub_cons 0 rfl sub_self)
 obtain ⟨e8, i5, H⟩ := b1_out H
 refine EL.of (EO.callD 15 [.pointer (some ⟨a0, 0, none⟩), .agg #[.int .i32 7, .int .i64 0, .int .i64 0, .slice none ([] : List Int).length 0, .int .i32 0, .int .i32 0, .int .i32 0, .int .i32 0, .int .i64 0, .int .i64 0, .int .u32 0, .int .i64 0], .int .i32 a1] _ 43 (by kernel_rfl) (by kernel_rfl) (by kernel_rfl) (park_Park_Add.calls i5 hS) ?_)
 rintro v w ⟨g6, g7, rfl, hS⟩
 refine EL.done (by kernel_rfl) ?_
 refine EQ.code ?_
 refine EW.seq (x := Cd10.r.r.r.r.r.r.r.r.r.r.l) (y := Cd10.r.r.r.r.r.r.r.r.r.r.r) (by kernel_rfl) ?_
 refine EW.region (id := 11) (ops := Cd10.r.r.r.r.r.r.r.r.r.r.l.ops) (by kernel_rfl) ?_
 refine EL.quick 2 [2, 5, 45, 46] [(2, .pointer (some ⟨a0, 0, none⟩)), (5, .int .i32 a1), (45, .pointer (some ⟨a0, 0, none⟩)), (46, .pointer (some ⟨a4, 0, none⟩))] (by kernel_rfl) ?_
 obtain ⟨c5, a5, a2, a3, i6, H⟩ := b4_out H
 refine EL.of (EO.callD 16 [.pointer (some ⟨a0, 0, none⟩), .pointer (some ⟨a4, 0, none⟩), .int .i64 2] _ 47 (by kernel_rfl) (by kernel_rfl) (by kernel_rfl) (park_Park_Look.calls i6 hS) ?_)
 rintro v w ⟨f5, f9, c3, b8, a7, a6, rfl, hS⟩
 refine EL.quick 7 [2, 5, 7, 8, 9] [(2, .pointer (some ⟨a0, 0, none⟩)), (5, .int .i32 a1), (7, .slice c3 a5.length b8), (8, .slice a7 a2.length a6), (9, .int .i64 a3)] (by kernel_rfl) ?_
 refine EL.done (by kernel_rfl) ?_
 refine EQ.code ?_
 refine EW.seq (x := Cd10.r.r.r.r.r.r.r.r.r.r.r.l) (y := Cd10.r.r.r.r.r.r.r.r.r.r.r.r) (by kernel_rfl) ?_
 refine EW.region (id := 12) (ops := Cd10.r.r.r.r.r.r.r.r.r.r.r.l.ops) (by kernel_rfl) ?_
 refine EL.quick 4 [2, 5, 7, 8, 9, 54] [(2, .pointer (some ⟨a0, 0, none⟩)), (5, .int .i32 a1), (7, .slice c3 a5.length b8), (8, .slice a7 a2.length a6), (9, .int .i64 a3), (54, .bool (decide ((a5.length : Int) = 1)))] (by kernel_rfl) ?_
 by_cases d4 : (a5.length : Int) = 1
 ·rw [if_pos d4] at H
  refine EL.keep [2, 5, 7, 8, 9, 54] [(2, .pointer (some ⟨a0, 0, none⟩)), (5, .int .i32 a1), (7, .slice c3 a5.length b8), (8, .slice a7 a2.length a6), (9, .int .i64 a3), (54, .bool (decide ((a5.length : Int) = 1)))] (by kernel_rfl) ?_
  refine EL.as' [(2, .pointer (some ⟨a0, 0, none⟩)), (5, .int .i32 a1), (7, .slice c3 a5.length b8), (8, .slice a7 a2.length a6), (9, .int .i64 a3), (54, .bool (true))] (by simp only [dec_t d4, Bool.not_true, Bool.not_false]) ?_
  refine EL.quick 1 [2, 5, 8, 9, 54, 55] [(2, .pointer (some ⟨a0, 0, none⟩)), (5, .int .i32 a1), (8, .slice a7 a2.length a6), (9, .int .i64 a3), (54, .bool (true)), (55, .slice c3 a5.length b8)] (by kernel_rfl) ?_
  obtain ⟨e5, H⟩ := ite_in H
  obtain ⟨d0, rfl⟩ := St.rd_some hS (Rd.own 6 36 rfl) (by decide) e5
  refine EL.of (EO.Y (YO.idx 37 12 d0 a5.length b8 .i64 0 56 (by kernel_rfl) (by kernel_rfl) (by kernel_rfl) (by kernel_rfl) (by decide) e5) ?_)
  refine EL.quick 1 [2, 5, 8, 9, 54, 57] [(2, .pointer (some ⟨a0, 0, none⟩)), (5, .int .i32 a1), (8, .slice a7 a2.length a6), (9, .int .i64 a3), (54, .bool (true)), (57, .pointer (some ((d0.add ((0 : Int).toNat * 12)).add 0)))] (by kernel_rfl) ?_
  refine EL.of (EO.loadPt hS kS36 d0 b8 a5 (Rd.own 6 36 rfl) zS36 cellsS36 factsS36 partsS36 0 (by decide) e5 21 12 0 1 rfl (fun d2 => .int .i32 ((a5.getD (0 : Int).toNat zS36).f0)) 58 (by kernel_rfl) (by kernel_rfl) (by kernel_rfl) (fun d2 => (by kernel_rfl)) ?_)
  intro d2 hS
  refine EL.quick 3 [2, 5, 8, 9, 61] [(2, .pointer (some ⟨a0, 0, none⟩)), (5, .int .i32 a1), (8, .slice a7 a2.length a6), (9, .int .i64 a3), (61, .bool (decide (((a5.getD (0 : Int).toNat zS36).f0) = 5)))] (by kernel_rfl) ?_
  by_cases d5 : ((a5.getD (0 : Int).toNat zS36).f0) = 5
  ·rw [if_pos d5] at H
   refine EL.keep [2, 5, 8, 9, 61] [(2, .pointer (some ⟨a0, 0, none⟩)), (5, .int .i32 a1), (8, .slice a7 a2.length a6), (9, .int .i64 a3), (61, .bool (decide (((a5.getD (0 : Int).toNat zS36).f0) = 5)))] (by kernel_rfl) ?_
   refine EL.as' [(2, .pointer (some ⟨a0, 0, none⟩)), (5, .int .i32 a1), (8, .slice a7 a2.length a6), (9, .int .i64 a3), (61, .bool (true))] (by simp only [dec_t d5, Bool.not_true, Bool.not_false]) ?_
   refine EL.quick 5 [2, 5, 8, 9, 66] [(2, .pointer (some ⟨a0, 0, none⟩)), (5, .int .i32 a1), (8, .slice a7 a2.length a6), (9, .int .i64 a3), (66, .bool (decide ((a2.length : Int) = 1)))] (by kernel_rfl) ?_
   by_cases d6 : (a2.length : Int) = 1
   ·rw [if_pos d6] at H
    refine EL.keep [2, 5, 8, 9, 66] [(2, .pointer (some ⟨a0, 0, none⟩)), (5, .int .i32 a1), (8, .slice a7 a2.length a6), (9, .int .i64 a3), (66, .bool (decide ((a2.length : Int) = 1)))] (by kernel_rfl) ?_
    refine EL.as' [(2, .pointer (some ⟨a0, 0, none⟩)), (5, .int .i32 a1), (8, .slice a7 a2.length a6), (9, .int .i64 a3), (66, .bool (true))] (by simp only [dec_t d6, Bool.not_true, Bool.not_false]) ?_
    refine EL.quick 1 [2, 5, 9, 66, 67] [(2, .pointer (some ⟨a0, 0, none⟩)), (5, .int .i32 a1), (9, .int .i64 a3), (66, .bool (true)), (67, .slice a7 a2.length a6)] (by kernel_rfl) ?_
    obtain ⟨e6, H⟩ := ite_in H
    obtain ⟨d1, rfl⟩ := St.rd_some hS (Rd.own 7 36 rfl) (by decide) e6
    refine EL.of (EO.Y (YO.idx 37 12 d1 a2.length a6 .i64 0 68 (by kernel_rfl) (by kernel_rfl) (by kernel_rfl) (by kernel_rfl) (by decide) e6) ?_)
    refine EL.quick 1 [2, 5, 9, 66, 69] [(2, .pointer (some ⟨a0, 0, none⟩)), (5, .int .i32 a1), (9, .int .i64 a3), (66, .bool (true)), (69, .pointer (some ((d1.add ((0 : Int).toNat * 12)).add 0)))] (by kernel_rfl) ?_
    refine EL.of (EO.loadPt hS kS36 d1 a6 a2 (Rd.own 7 36 rfl) zS36 cellsS36 factsS36 partsS36 0 (by decide) e6 21 12 0 1 rfl (fun d3 => .int .i32 ((a2.getD (0 : Int).toNat zS36).f0)) 70 (by kernel_rfl) (by kernel_rfl) (by kernel_rfl) (fun d3 => (by kernel_rfl)) ?_)
    intro d3 hS
    refine EL.quick 3 [2, 5, 9, 73] [(2, .pointer (some ⟨a0, 0, none⟩)), (5, .int .i32 a1), (9, .int .i64 a3), (73, .bool (decide (((a2.getD (0 : Int).toNat zS36).f0) = 7)))] (by kernel_rfl) ?_
    by_cases d7 : ((a2.getD (0 : Int).toNat zS36).f0) = 7
    ·rw [if_pos d7] at H
     refine EL.keep [2, 5, 9, 73] [(2, .pointer (some ⟨a0, 0, none⟩)), (5, .int .i32 a1), (9, .int .i64 a3), (73, .bool (decide (((a2.getD (0 : Int).toNat zS36).f0) = 7)))] (by kernel_rfl) ?_
     refine EL.as' [(2, .pointer (some ⟨a0, 0, none⟩)), (5, .int .i32 a1), (9, .int .i64 a3), (73, .bool (true))] (by simp only [dec_t d7, Bool.not_true, Bool.not_false]) ?_
     refine EL.quick 4 [2, 5, 77] [(2, .pointer (some ⟨a0, 0, none⟩)), (5, .int .i32 a1), (77, .bool (decide (a3 = 0)))] (by kernel_rfl) ?_
     by_cases d8 : a3 = 0
     ·rw [if_pos d8] at H
      refine EL.keep [2, 5, 77] [(2, .pointer (some ⟨a0, 0, none⟩)), (5, .int .i32 a1), (77, .bool (decide (a3 = 0)))] (by kernel_rfl) ?_
      refine EL.as' [(2, .pointer (some ⟨a0, 0, none⟩)), (5, .int .i32 a1), (77, .bool (true))] (by simp only [dec_t d8, Bool.not_true, Bool.not_false]) ?_
      refine EL.quick 1 [2, 5, 77, 78] [(2, .pointer (some ⟨a0, 0, none⟩)), (5, .int .i32 a1), (77, .bool (true)), (78, .pointer (some ⟨a0, 0, none⟩))] (by kernel_rfl) ?_
      have hS : St B _ (Ass.box 93 a0 [.slice f5 c5.length f9] :: Ass.own 60 kS60 f5 f9 c5 :: Ass.own 60 kS60 g6 g7 e8 :: Ass.box 91 a4 [.slice c0 b9.length c1, .slice b6 a9.length b7] :: Ass.deep 94 96 kS96 c0 c1 b9 :: Ass.own 3 (Kd.int .i64) b6 b7 a9 :: Ass.own 36 kS36 (some d0) b8 a5 :: Ass.own 36 kS36 (some d1) a6 a2 :: os) (Ro.sl (Kd.int .i32) d3.1 d3.2 ((a2.getD (0 : Int).toNat zS36).f3) :: Ro.sl (Kd.int .i32) d2.1 d2.2 ((a5.getD (0 : Int).toNat zS36).f3) :: Ro.sl (Kd.int .i32) none 0 ([] : List Int) :: Ro.sl (Kd.int .i32) none 0 ([] : List Int) :: Ro.sl (Kd.int .i32) none 0 ([] : List Int) :: Ro.sl (Kd.int .i32) none 0 ([] : List Int) :: Ro.sl (Kd.int .i64) (some ⟨b0, 0, none⟩) 1 a8 :: Ro.sl (Kd.int .i64) (some ⟨b0, 0, none⟩) 1 a8 :: rs) := hS.re [5, 1] [] rfl sub_self
      obtain ⟨c6, i7, H⟩ := b1_out H
      refine EL.of (EO.callD 17 [.pointer (some ⟨a0, 0, none⟩)] _ 79 (by kernel_rfl) (by kernel_rfl) (by kernel_rfl) (park_Park_Len.calls i7 hS) ?_)
      rintro v w ⟨rfl, hS⟩
      refine EL.quick 3 [2, 5, 82] [(2, .pointer (some ⟨a0, 0, none⟩)), (5, .int .i32 a1), (82, .bool (decide (c6 = 1)))] (by kernel_rfl) ?_
      by_cases d9 : c6 = 1
      ·rw [if_pos d9] at H
       refine EL.keep [2, 5, 82] [(2, .pointer (some ⟨a0, 0, none⟩)), (5, .int .i32 a1), (82, .bool (decide (c6 = 1)))] (by kernel_rfl) ?_
       refine EL.as' [(2, .pointer (some ⟨a0, 0, none⟩)), (5, .int .i32 a1), (82, .bool (true))] (by simp only [dec_t d9, Bool.not_true, Bool.not_false]) ?_
       refine EL.quick 1 [2, 5, 82, 83] [(2, .pointer (some ⟨a0, 0, none⟩)), (5, .int .i32 a1), (82, .bool (true)), (83, .pointer (some ⟨a0, 0, none⟩))] (by kernel_rfl) ?_
       obtain ⟨c7, i8, H⟩ := b1_out H
       refine EL.of (EO.callD 25 [.pointer (some ⟨a0, 0, none⟩)] _ 84 (by kernel_rfl) (by kernel_rfl) (by kernel_rfl) (park_Park_All.calls i8 hS) ?_)
       rintro v w ⟨j5, j9, rfl, hS⟩
       refine EL.quick 4 [2, 5, 88] [(2, .pointer (some ⟨a0, 0, none⟩)), (5, .int .i32 a1), (88, .bool (decide ((c7.length : Int) = 1)))] (by kernel_rfl) ?_
       by_cases e0 : (c7.length : Int) = 1
       ·rw [if_pos e0] at H
        refine EL.keep [2, 5, 88] [(2, .pointer (some ⟨a0, 0, none⟩)), (5, .int .i32 a1), (88, .bool (decide ((c7.length : Int) = 1)))] (by kernel_rfl) ?_
        refine EL.as' [(2, .pointer (some ⟨a0, 0, none⟩)), (5, .int .i32 a1), (88, .bool (true))] (by simp only [dec_t e0, Bool.not_true, Bool.not_false]) ?_
        refine EL.quick 1 [5, 88, 89] [(5, .int .i32 a1), (88, .bool (true)), (89, .pointer (some ⟨a0, 0, none⟩))] (by kernel_rfl) ?_
        obtain ⟨c2, i9, H⟩ := b1_out H
        refine EL.of (EO.callD 25 [.pointer (some ⟨a0, 0, none⟩)] _ 90 (by kernel_rfl) (by kernel_rfl) (by kernel_rfl) (park_Park_All.calls i9 hS) ?_)
        rintro v w ⟨j6, g0, rfl, hS⟩
        obtain ⟨e7, H⟩ := ite_in H
        obtain ⟨e4, rfl⟩ := St.rd_some hS (Rd.own 2 60 rfl) (by decide) e7
        refine EL.of (EO.Y (YO.idx 58 13 e4 c2.length g0 .i64 0 91 (by kernel_rfl) (by kernel_rfl) (by kernel_rfl) (by kernel_rfl) (by decide) e7) ?_)
        refine EL.quick 1 [5, 88, 92] [(5, .int .i32 a1), (88, .bool (true)), (92, .pointer (some ((e4.add ((0 : Int).toNat * 13)).add 12)))] (by kernel_rfl) ?_
        refine EL.of (EO.loadPt hS kS60 e4 g0 c2 (Rd.own 2 60 rfl) zS60 cellsS60 factsS60 partsS60 0 (by decide) e7 21 13 12 1 rfl (fun g1 => .int .i32 ((c2.getD (0 : Int).toNat zS60).f1)) 93 (by kernel_rfl) (by kernel_rfl) (by kernel_rfl) (fun g1 => (by kernel_rfl)) ?_)
        intro g1 hS
        refine EL.quick 4 [0] [(0, .bool (decide (((c2.getD (0 : Int).toNat zS60).f1) = a1)))] (by kernel_rfl) ?_
        refine EL.done (by kernel_rfl) ?_
        refine EQ.code ?_
        refine EW.ret (by kernel_rfl) ?_
        obtain rfl := Option.some.inj H
        exact EQ.leave (.bool (decide (((c2.getD (0 : Int).toNat zS60).f1) = a1))) (by kernel_rfl) ⟨_, rfl, rfl, (hS.re [] [0, 0, 0, 0, 0, 0, 0, 0, 0, 0] rfl (sub_tail (sub_tail (sub_tail (sub_tail (sub_tail (sub_tail (sub_tail (sub_tail (sub_tail (sub_self)))))))))))⟩
       ·rw [if_neg e0] at H
        refine EL.keep [2, 5, 88] [(2, .pointer (some ⟨a0, 0, none⟩)), (5, .int .i32 a1), (88, .bool (decide ((c7.length : Int) = 1)))] (by kernel_rfl) ?_
        refine EL.as' [(2, .pointer (some ⟨a0, 0, none⟩)), (5, .int .i32 a1), (88, .bool (false))] (by simp only [dec_f e0, Bool.not_true, Bool.not_false]) ?_
        refine EL.quick 9 [0] [(0, .bool (false))] (by kernel_rfl) ?_
        refine EL.done (by kernel_rfl) ?_
        refine EQ.code ?_
        refine EW.ret (by kernel_rfl) ?_
        obtain rfl := Option.some.inj H
        exact EQ.leave (.bool (false)) (by kernel_rfl) ⟨_, rfl, rfl, (hS.re [] [0, 0, 0, 0, 0, 0, 0, 0, 0] rfl (sub_tail (sub_tail (sub_tail (sub_tail (sub_tail (sub_tail (sub_tail (sub_tail (sub_self))))))))))⟩
      ·rw [if_neg d9] at H
       refine EL.keep [2, 5, 82] [(2, .pointer (some ⟨a0, 0, none⟩)), (5, .int .i32 a1), (82, .bool (decide (c6 = 1)))] (by kernel_rfl) ?_
       refine EL.as' [(2, .pointer (some ⟨a0, 0, none⟩)), (5, .int .i32 a1), (82, .bool (false))] (by simp only [dec_f d9, Bool.not_true, Bool.not_false]) ?_
       refine EL.quick 15 [0] [(0, .bool (false))] (by kernel_rfl) ?_
       refine EL.done (by kernel_rfl) ?_
       refine EQ.code ?_
       refine EW.ret (by kernel_rfl) ?_
       obtain rfl := Option.some.inj H
       exact EQ.leave (.bool (false)) (by kernel_rfl) ⟨_, rfl, rfl, (hS.re [] [0, 0, 0, 0, 0, 0, 0, 0] rfl (sub_tail (sub_tail (sub_tail (sub_tail (sub_tail (sub_tail (sub_tail (sub_tail (sub_self))))))))))⟩
     ·rw [if_neg d8] at H
      refine EL.keep [2, 5, 77] [(2, .pointer (some ⟨a0, 0, none⟩)), (5, .int .i32 a1), (77, .bool (decide (a3 = 0)))] (by kernel_rfl) ?_
      refine EL.as' [(2, .pointer (some ⟨a0, 0, none⟩)), (5, .int .i32 a1), (77, .bool (false))] (by simp only [dec_f d8, Bool.not_true, Bool.not_false]) ?_
      refine EL.quick 20 [0] [(0, .bool (false))] (by kernel_rfl) ?_
      refine EL.done (by kernel_rfl) ?_
      refine EQ.code ?_
      refine EW.ret (by kernel_rfl) ?_
      obtain rfl := Option.some.inj H
      exact EQ.leave (.bool (false)) (by kernel_rfl) ⟨_, rfl, rfl, (hS.re [] [0, 0, 0, 0, 0, 0, 0, 0] rfl (sub_tail (sub_tail (sub_tail (sub_tail (sub_tail (sub_tail (sub_tail (sub_tail (sub_self))))))))))⟩
    ·rw [if_neg d7] at H
     refine EL.keep [2, 5, 9, 73] [(2, .pointer (some ⟨a0, 0, none⟩)), (5, .int .i32 a1), (9, .int .i64 a3), (73, .bool (decide (((a2.getD (0 : Int).toNat zS36).f0) = 7)))] (by kernel_rfl) ?_
     refine EL.as' [(2, .pointer (some ⟨a0, 0, none⟩)), (5, .int .i32 a1), (9, .int .i64 a3), (73, .bool (false))] (by simp only [dec_f d7, Bool.not_true, Bool.not_false]) ?_
     refine EL.quick 24 [0] [(0, .bool (false))] (by kernel_rfl) ?_
     refine EL.done (by kernel_rfl) ?_
     refine EQ.code ?_
     refine EW.ret (by kernel_rfl) ?_
     obtain rfl := Option.some.inj H
     exact EQ.leave (.bool (false)) (by kernel_rfl) ⟨_, rfl, rfl, (hS.re [] [0, 0, 0, 0, 0, 0, 0, 0] rfl (sub_tail (sub_tail (sub_tail (sub_tail (sub_tail (sub_tail (sub_tail (sub_tail (sub_self))))))))))⟩
   ·rw [if_neg d6] at H
    refine EL.keep [2, 5, 8, 9, 66] [(2, .pointer (some ⟨a0, 0, none⟩)), (5, .int .i32 a1), (8, .slice a7 a2.length a6), (9, .int .i64 a3), (66, .bool (decide ((a2.length : Int) = 1)))] (by kernel_rfl) ?_
    refine EL.as' [(2, .pointer (some ⟨a0, 0, none⟩)), (5, .int .i32 a1), (8, .slice a7 a2.length a6), (9, .int .i64 a3), (66, .bool (false))] (by simp only [dec_f d6, Bool.not_true, Bool.not_false]) ?_
    refine EL.quick 31 [0] [(0, .bool (false))] (by kernel_rfl) ?_
    refine EL.done (by kernel_rfl) ?_
    refine EQ.code ?_
    refine EW.ret (by kernel_rfl) ?_
    obtain rfl := Option.some.inj H
    exact EQ.leave (.bool (false)) (by kernel_rfl) ⟨_, rfl, rfl, (hS.re [] [0, 0, 0, 0, 0, 0, 0, 0] rfl (sub_tail (sub_tail (sub_tail (sub_tail (sub_tail (sub_tail (sub_tail (sub_self)))))))))⟩
  ·rw [if_neg d5] at H
   refine EL.keep [2, 5, 8, 9, 61] [(2, .pointer (some ⟨a0, 0, none⟩)), (5, .int .i32 a1), (8, .slice a7 a2.length a6), (9, .int .i64 a3), (61, .bool (decide (((a5.getD (0 : Int).toNat zS36).f0) = 5)))] (by kernel_rfl) ?_
   refine EL.as' [(2, .pointer (some ⟨a0, 0, none⟩)), (5, .int .i32 a1), (8, .slice a7 a2.length a6), (9, .int .i64 a3), (61, .bool (false))] (by simp only [dec_f d5, Bool.not_true, Bool.not_false]) ?_
   refine EL.quick 36 [0] [(0, .bool (false))] (by kernel_rfl) ?_
   refine EL.done (by kernel_rfl) ?_
   refine EQ.code ?_
   refine EW.ret (by kernel_rfl) ?_
   obtain rfl := Option.some.inj H
   exact EQ.leave (.bool (false)) (by kernel_rfl) ⟨_, rfl, rfl, (hS.re [] [0, 0, 0, 0, 0, 0, 0, 0] rfl (sub_tail (sub_tail (sub_tail (sub_tail (sub_tail (sub_tail (sub_tail (sub_self)))))))))⟩
 ·rw [if_neg d4] at H
  refine EL.keep [2, 5, 7, 8, 9, 54] [(2, .pointer (some ⟨a0, 0, none⟩)), (5, .int .i32 a1), (7, .slice c3 a5.length b8), (8, .slice a7 a2.length a6), (9, .int .i64 a3), (54, .bool (decide ((a5.length : Int) = 1)))] (by kernel_rfl) ?_
  refine EL.as' [(2, .pointer (some ⟨a0, 0, none⟩)), (5, .int .i32 a1), (7, .slice c3 a5.length b8), (8, .slice a7 a2.length a6), (9, .int .i64 a3), (54, .bool (false))] (by simp only [dec_f d4, Bool.not_true, Bool.not_false]) ?_
  refine EL.quick 43 [0] [(0, .bool (false))] (by kernel_rfl) ?_
  refine EL.done (by kernel_rfl) ?_
  refine EQ.code ?_
  refine EW.ret (by kernel_rfl) ?_
  obtain rfl := Option.some.inj H
  exact EQ.leave (.bool (false)) (by kernel_rfl) ⟨_, rfl, rfl, (hS.re [] [0, 0, 0, 0, 0, 0, 0, 0] rfl (sub_tail (sub_tail (sub_tail (sub_tail (sub_tail (sub_tail (sub_self))))))))⟩

/-! ### confidant/confidantref12.quotas: function 46 -/
def confidantref12_quotas.l0 (K : Nat) (a0 : List Int) : Nat → (List Int) → Int → Option (List Int)
 | 0, _, _ => none
 | n + 1, a3, a1 => lt (fun (b2 : Bool) => (if b2 = true then (if 0 ≤ a1 then (if a1 < (a0.length : Int) then (lt ([mn (mx (a0.getD a1.toNat 0) 0) 4096] : List Int) fun b1 => (if (a3.length + b1.length) * 8 ≤ 140737488355328 then (lt (a3 ++ b1) fun a7 => (confidantref12_quotas.l0 K a0 n a7 (IntKind.i64.wrap (a1 + 1)))) else none)) else none) else none) else (some a3))) fun b5 => (if a1 < (a0.length : Int) then (b5 (decide (a1 < 16))) else (b5 false))
def confidantref12_quotas.f (K : Nat) (a0 : List Int) : Option (List Int) := confidantref12_quotas.l0 K a0 K ([] : List Int) 0
set_option maxRecDepth 100000 in
theorem confidantref12_quotas.calls {K : Nat} {a0 : List Int} {a4 : Option Addr} {a2 : Nat} {b3 : List Int} {B w : World} {os : List Ass} {rs : List Ro} (H : confidantref12_quotas.f K a0 = some b3) (hS : St B w (os) (Ro.sl (Kd.int .i64) a4 a2 a0 :: rs)) :
  Calls Try.prog 46 [.slice a4 a0.length a2].toArray w (fun en w' => ∃ v, en = .returned v ∧ ∃ b9 : Option Addr, ∃ c0 : Nat, v = .slice b9 b3.length c0 ∧ St B w' (Ass.own 3 (Kd.int .i64) b9 c0 b3 :: os) (Ro.sl (Kd.int .i64) a4 a2 a0 :: rs)) := by
 unfold confidantref12_quotas.f at H
 refine calls_of_EW (args := [.slice a4 a0.length a2]) (c := Cd46) 25 Try.func46 (by kernel_rfl) (by kernel_rfl) (by kernel_rfl) ?_
 refine EW.seq (x := Cd46.l) (y := Cd46.r) (by kernel_rfl) ?_
 refine EW.region (id := 0) (ops := Cd46.l.ops) (by kernel_rfl) ?_
 refine EL.quick 1 [0] [(0, .slice a4 a0.length a2)] (by kernel_rfl) ?_
 refine EL.done (by kernel_rfl) ?_
 refine EQ.code ?_
 refine EW.seq (x := Cd46.r.l) (y := Cd46.r.r) (by kernel_rfl) ?_
 refine EW.region (id := 1) (ops := Cd46.r.l.ops) (by kernel_rfl) ?_
 refine EL.quick 1 [0, 3] [(0, .slice a4 a0.length a2), (3, .slice none ([] : List Int).length 0)] (by kernel_rfl) ?_
 refine EL.done (by kernel_rfl) ?_
 refine EQ.code ?_
 refine EW.seq (x := Cd46.r.r.l) (y := Cd46.r.r.r) (by kernel_rfl) ?_
 refine EW.seq (x := Cd46.r.r.l.l) (y := Cd46.r.r.l.r) (by kernel_rfl) ?_
 refine EW.region (id := 2) (ops := Cd46.r.r.l.l.ops) (by kernel_rfl) ?_
 refine EL.quick 1 [0, 3, 4] [(0, .slice a4 a0.length a2), (3, .slice none ([] : List Int).length 0), (4, .int .i64 0)] (by kernel_rfl) ?_
 refine EL.done (by kernel_rfl) ?_
 refine EQ.code ?_
 refine EW.block (x := Cd46.r.r.l.r.l) (id := 0) (by kernel_rfl) ?_
 have hS := St.nilO hS 3 (Kd.int .i64)
 refine EW.loop (x := Cd46.r.r.l.r.l.l) (fun n a w => ∃ a3 : List Int, ∃ a1 : Int, ∃ a5 : Option Addr, ∃ a6 : Nat, Sat 25 [(0, .slice a4 a0.length a2), (3, .slice a5 a3.length a6), (4, .int .i64 a1)] a ∧ St B w (Ass.own 3 (Kd.int .i64) a5 a6 a3 :: os) (Ro.sl (Kd.int .i64) a4 a2 a0 :: rs) ∧ confidantref12_quotas.l0 K a0 n a3 a1 = some b3) K (by kernel_rfl) ?_ (fun n a w hI => ?_)
 ·refine EQ.keep [0, 3, 4] [(0, .slice a4 a0.length a2), (3, .slice none ([] : List Int).length 0), (4, .int .i64 0)] (by kernel_rfl) ?_
  exact fun a ha => ⟨([] : List Int), 0, none, 0, ha, (hS.re [0] [] rfl (sub_cons 0 rfl (sub_tail (sub_self)))), H⟩
 ·obtain ⟨a3, a1, a5, a6, ha, hS, H⟩ := hI
  obtain _ | n := n
  ·simp [confidantref12_quotas.l0] at H
  rw [confidantref12_quotas.l0.eq_2] at H
  refine EW.at ?_ a ha
  clear ha a
  refine EW.seq (x := Cd46.r.r.l.r.l.l.l) (y := Cd46.r.r.l.r.l.l.r) (by kernel_rfl) ?_
  obtain ⟨b5, c4, H⟩ := lt_out H
  refine EW.cut (x := Cd46.r.r.l.r.l.l.l.l) (y := Cd46.r.r.l.r.l.l.l.r) (fun a w => ∃ b2 : Bool, Sat 25 [(0, .slice a4 a0.length a2), (3, .slice a5 a3.length a6), (4, .int .i64 a1), (12, .bool (b2))] a ∧ St B w (Ass.own 3 (Kd.int .i64) a5 a6 a3 :: os) (Ro.sl (Kd.int .i64) a4 a2 a0 :: rs) ∧ b5 b2 = some b3) (by kernel_rfl) ?_ (fun a w hI => ?_)
  ·refine EW.region (id := 3) (ops := Cd46.r.r.l.r.l.l.l.l.ops) (by kernel_rfl) ?_
   refine EL.quick 5 [0, 3, 4, 9] [(0, .slice a4 a0.length a2), (3, .slice a5 a3.length a6), (4, .int .i64 a1), (9, .bool (decide (a1 < (a0.length : Int))))] (by kernel_rfl) ?_
   by_cases b4 : a1 < (a0.length : Int)
   ·rw [if_pos b4] at H
    refine EL.keep [0, 3, 4, 9] [(0, .slice a4 a0.length a2), (3, .slice a5 a3.length a6), (4, .int .i64 a1), (9, .bool (decide (a1 < (a0.length : Int))))] (by kernel_rfl) ?_
    refine EL.as' [(0, .slice a4 a0.length a2), (3, .slice a5 a3.length a6), (4, .int .i64 a1), (9, .bool (true))] (by simp only [dec_t b4, Bool.not_true, Bool.not_false]) ?_
    refine EL.quick 3 [0, 3, 4, 10, 11, 12] [(0, .slice a4 a0.length a2), (3, .slice a5 a3.length a6), (4, .int .i64 a1), (10, .int .i64 a1), (11, .bool (decide (a1 < 16))), (12, .bool (decide (a1 < 16)))] (by kernel_rfl) ?_
    refine EL.done (by kernel_rfl) ?_
    refine EQ.to ?_
    refine EQ.keep [0, 3, 4, 12] [(0, .slice a4 a0.length a2), (3, .slice a5 a3.length a6), (4, .int .i64 a1), (12, .bool (decide (a1 < 16)))] (by kernel_rfl) ?_
    exact fun a ha => ⟨decide (a1 < 16), ha, (hS.re [0] [] rfl (sub_cons 0 rfl (sub_tail (sub_self)))), H⟩
   ·rw [if_neg b4] at H
    refine EL.keep [0, 3, 4, 9] [(0, .slice a4 a0.length a2), (3, .slice a5 a3.length a6), (4, .int .i64 a1), (9, .bool (decide (a1 < (a0.length : Int))))] (by kernel_rfl) ?_
    refine EL.as' [(0, .slice a4 a0.length a2), (3, .slice a5 a3.length a6), (4, .int .i64 a1), (9, .bool (false))] (by simp only [dec_f b4, Bool.not_true, Bool.not_false]) ?_
    refine EL.quick 3 [0, 3, 4, 12] [(0, .slice a4 a0.length a2), (3, .slice a5 a3.length a6), (4, .int .i64 a1), (12, .bool (false))] (by kernel_rfl) ?_
    refine EL.done (by kernel_rfl) ?_
    refine EQ.to ?_
    refine EQ.keep [0, 3, 4, 12] [(0, .slice a4 a0.length a2), (3, .slice a5 a3.length a6), (4, .int .i64 a1), (12, .bool (false))] (by kernel_rfl) ?_
    exact fun a ha => ⟨false, ha, (hS.re [0] [] rfl (sub_cons 0 rfl (sub_tail (sub_self)))), H⟩
  ·obtain ⟨b2, ha, hS, H⟩ := hI
   rw [c4] at H
   (try dsimp only at H)
   refine EW.at ?_ a ha
   clear ha a
   refine EW.condP' (o := (.tmp 12)) (x := Cd46.r.r.l.r.l.l.l.r.l) (y := Cd46.r.r.l.r.l.l.l.r.r) (b2) (by kernel_rfl) (by kernel_rfl) (fun b6 => ?_) (fun b6 => ?_)
   ·rw [if_pos b6] at H
    refine EW.skip (by kernel_rfl) ?_
    refine EQ.code ?_
    refine EW.seq (x := Cd46.r.r.l.r.l.l.r.l) (y := Cd46.r.r.l.r.l.l.r.r) (by kernel_rfl) ?_
    refine EW.block (x := Cd46.r.r.l.r.l.l.r.l.l) (id := 1) (by kernel_rfl) ?_
    refine EW.region (id := 5) (ops := Cd46.r.r.l.r.l.l.r.l.l.ops) (by kernel_rfl) ?_
    refine EL.quick 3 [0, 4, 15, 16, 17] [(0, .slice a4 a0.length a2), (4, .int .i64 a1), (15, .slice a5 a3.length a6), (16, .slice a4 a0.length a2), (17, .int .i64 a1)] (by kernel_rfl) ?_
    obtain ⟨b7, H⟩ := ite_in H
    obtain ⟨b8, H⟩ := ite_in H
    obtain ⟨b0, rfl⟩ := St.rd_some hS (Rd.ro 0 rfl) b7 b8
    refine EL.of (EO.Y (YO.idx 66 1 b0 a0.length a2 .i64 a1 18 (by kernel_rfl) (by kernel_rfl) (by kernel_rfl) (by kernel_rfl) b7 b8) ?_)
    refine EL.of (EO.Y (YO.loadEl hS (Kd.int .i64) b0 a2 a0 (Rd.ro 0 rfl) 0 (encI .i64) encI_of a1 b7 b8 3 1 0 1 rfl (.int .i64 (a0.getD a1.toNat 0)) 19 (by kernel_rfl) (by kernel_rfl) (by kernel_rfl) (by kernel_rfl)) ?_)
    refine EL.quick 2 [0, 4, 15, 21] [(0, .slice (some b0) a0.length a2), (4, .int .i64 a1), (15, .slice a5 a3.length a6), (21, .int .i64 (mn (mx (a0.getD a1.toNat 0) 0) 4096))] (by kernel_rfl) ?_
    obtain ⟨b1, c2, H⟩ := lt_out H
    refine EL.of (EO.lit hS (Kd.int .i64) 3 66 1 #[(0, .int .i64 (mn (mx (a0.getD a1.toNat 0) 0) 4096))] [.int .i64 (mn (mx (a0.getD a1.toNat 0) 0) 4096)] b1 22 (by kernel_rfl) (by kernel_rfl) (by kernel_rfl) (fun _ => (by kernel_rfl)) (by rw [c2]; rfl) (by kernel_rfl) (fun w G hr => (by rw [c2]; exact ⟨[.int .i64 (mn (mx (a0.getD a1.toNat 0) 0) 4096)], [], rfl, rfl, rfl⟩)) ?_)
    intro c1 w hS
    obtain ⟨c3, H⟩ := ite_in H
    obtain ⟨a7, c5, H⟩ := lt_out H
    refine EL.of (EO.append hS 66 66 3 8 1 (Kd.int .i64) a5 a6 a3 rfl (some ⟨c1, 0, none⟩) 1 b1 (Rd.own 0 3 rfl) a7 c5 (fun a8 a9 => Ass.own 3 (Kd.int .i64) (some ⟨c1, 0, none⟩) 1 b1 :: Ass.own 3 (Kd.int .i64) a8 a9 a7 :: os) 23 (by kernel_rfl) (by kernel_rfl) (by kernel_rfl) (by kernel_rfl) c3 (fun _ _ => rfl) ?_)
    intro a8 a9 w hS
    refine EL.quick 1 [0, 3, 4] [(0, .slice (some b0) a0.length a2), (3, .slice a8 a7.length a9), (4, .int .i64 a1)] (by kernel_rfl) ?_
    refine EL.done (by kernel_rfl) ?_
    refine EQ.pop ?_
    refine EQ.code ?_
    refine EW.region (id := 4) (ops := Cd46.r.r.l.r.l.l.r.r.ops) (by kernel_rfl) ?_
    refine EL.quick 3 [0, 3, 4] [(0, .slice (some b0) a0.length a2), (3, .slice a8 a7.length a9), (4, .int .i64 (IntKind.i64.wrap (a1 + 1)))] (by kernel_rfl) ?_
    refine EL.done (by kernel_rfl) ?_
    refine EQ.to ?_
    refine EQ.keep [0, 3, 4] [(0, .slice (some b0) a0.length a2), (3, .slice a8 a7.length a9), (4, .int .i64 (IntKind.i64.wrap (a1 + 1)))] (by kernel_rfl) ?_
    exact fun a ha => ⟨n, Nat.lt_succ_self n, a7, IntKind.i64.wrap (a1 + 1), a8, a9, ha, (hS.re [1] [1] rfl (sub_cons 0 rfl (sub_tail (sub_self)))), H⟩
   ·rw [if_neg b6] at H
    refine EW.exit (id := 0) (by kernel_rfl) ?_
    refine EQ.exitCode ?_
    refine EQ.exitTo ?_
    refine EQ.exitHere ?_
    refine EQ.code ?_
    refine EW.seq (x := Cd46.r.r.r.l) (y := Cd46.r.r.r.r) (by kernel_rfl) ?_
    refine EW.region (id := 6) (ops := Cd46.r.r.r.l.ops) (by kernel_rfl) ?_
    refine EL.quick 2 [2] [(2, .slice a5 a3.length a6)] (by kernel_rfl) ?_
    refine EL.done (by kernel_rfl) ?_
    refine EQ.code ?_
    refine EW.ret (by kernel_rfl) ?_
    obtain rfl := Option.some.inj H
    exact EQ.leave (.slice a5 a3.length a6) (by kernel_rfl) ⟨_, rfl, a5, a6, rfl, (hS.re [0] [] rfl (sub_self))⟩

/-! ### confidant/confidantref12.NewFutures: function 18 -/
def confidantref12_NewFutures.f (K : Nat) (a1 : List Int) : Option (List Int × List (List S96)) := b1 (confidantref12_quotas.f K a1) fun (a0 : List Int) => (if 0 ≤ (a0.length : Int) then (if (24 : Int) * (a0.length : Int) ≤ 140737488355328 then (lt (List.replicate (a0.length : Int).toNat [] : List (List S96)) fun a6 => (some (a0, a6))) else none) else none)
set_option maxRecDepth 100000 in
theorem confidantref12_NewFutures.calls {K : Nat} {a1 : List Int} {a2 : Option Addr} {a3 : Nat} {a9 : List Int} {b0 : List (List S96)} {B w : World} {os : List Ass} {rs : List Ro} (H : confidantref12_NewFutures.f K a1 = some (a9, b0)) (hS : St B w (os) (Ro.sl (Kd.int .i64) a2 a3 a1 :: rs)) :
  Calls Try.prog 18 [.slice a2 a1.length a3].toArray w (fun en w' => ∃ v, en = .returned v ∧ ∃ b6 : Nat, ∃ b2 : Option Addr, ∃ b4 : Nat, ∃ b3 : Option Addr, ∃ b5 : Nat, v = .pointer (some ⟨b6, 0, none⟩) ∧ St B w' (Ass.box 105 b6 [.slice b2 a9.length b4, .slice b3 b0.length b5] :: Ass.own 3 (Kd.int .i64) b2 b4 a9 :: Ass.deep 94 96 kS96 b3 b5 b0 :: os) (Ro.sl (Kd.int .i64) a2 a3 a1 :: rs)) := by
 unfold confidantref12_NewFutures.f at H
 refine calls_of_EW (args := [.slice a2 a1.length a3]) (c := Cd18) 12 Try.func18 (by kernel_rfl) (by kernel_rfl) (by kernel_rfl) ?_
 refine EW.seq (x := Cd18.l) (y := Cd18.r) (by kernel_rfl) ?_
 refine EW.region (id := 0) (ops := Cd18.l.ops) (by kernel_rfl) ?_
 refine EL.quick 1 [0] [(0, .slice a2 a1.length a3)] (by kernel_rfl) ?_
 refine EL.done (by kernel_rfl) ?_
 refine EQ.code ?_
 refine EW.seq (x := Cd18.r.l) (y := Cd18.r.r) (by kernel_rfl) ?_
 refine EW.region (id := 1) (ops := Cd18.r.l.ops) (by kernel_rfl) ?_
 refine EL.quick 1 [4] [(4, .slice a2 a1.length a3)] (by kernel_rfl) ?_
 have hS : St B _ (os) (Ro.sl (Kd.int .i64) a2 a3 a1 :: Ro.sl (Kd.int .i64) a2 a3 a1 :: rs) := hS.re [] [] rfl (sub_cons 0 rfl sub_self)
 obtain ⟨a0, c0, H⟩ := b1_out H
 refine EL.of (EO.callD 46 [.slice a2 a1.length a3] _ 5 (by kernel_rfl) (by kernel_rfl) (by kernel_rfl) (confidantref12_quotas.calls c0 hS) ?_)
 rintro v w ⟨a4, a5, rfl, hS⟩
 refine EL.quick 1 [3] [(3, .slice a4 a0.length a5)] (by kernel_rfl) ?_
 refine EL.done (by kernel_rfl) ?_
 refine EQ.code ?_
 refine EW.seq (x := Cd18.r.r.l) (y := Cd18.r.r.r) (by kernel_rfl) ?_
 refine EW.region (id := 2) (ops := Cd18.r.r.l.ops) (by kernel_rfl) ?_
 refine EL.quick 3 [6, 8] [(6, .slice a4 a0.length a5), (8, .int .i64 (a0.length : Int))] (by kernel_rfl) ?_
 obtain ⟨b8, H⟩ := ite_in H
 obtain ⟨b9, H⟩ := ite_in H
 obtain ⟨a6, b7, H⟩ := lt_out H
 refine EL.of (EO.make (xs := List.replicate (a0.length : Int).toNat ((none, 0, 0) : Hdr)) hS Kd.hdr 94 89 24 .i64 .i64 (a0.length : Int) (none, 0, 0) [.slice none ([] : List S96).length 0] rfl 9 (by kernel_rfl) (by kernel_rfl) (by kernel_rfl) (by kernel_rfl) (by kernel_rfl) b8 b9 (fun w G => rfl) ?_)
 intro a7 w hS
 have hS : St B w (Ass.deep 94 96 kS96 (some ⟨a7, 0, none⟩) ((a0.length : Int).toNat) a6 :: Ass.own 3 (Kd.int .i64) a4 a5 a0 :: os) (Ro.sl (Kd.int .i64) a2 a3 a1 :: Ro.sl (Kd.int .i64) a2 a3 a1 :: rs) := by rw [b7]; exact St.madeDeep (et := 94) (et' := 96) (K := kS96) hS
 refine EL.as' ((9, .slice (some ⟨a7, 0, none⟩) a6.length ((a0.length : Int).toNat)) :: _) (by rw [b7, List.length_replicate, List.length_replicate]) ?_
 refine EL.quick 1 [10] [(10, .agg #[.slice a4 a0.length a5, .slice (some ⟨a7, 0, none⟩) a6.length ((a0.length : Int).toNat)])] (by kernel_rfl) ?_
 refine EL.of (EO.box hS 105 (.agg #[.slice a4 a0.length a5, .slice (some ⟨a7, 0, none⟩) a6.length ((a0.length : Int).toNat)]) [.slice a4 a0.length a5, .slice (some ⟨a7, 0, none⟩) a6.length ((a0.length : Int).toNat)] 11 (by kernel_rfl) (by kernel_rfl) (by kernel_rfl) (by first | rfl | kernel_rfl) ?_)
 intro a8 w hS
 refine EL.quick 1 [2] [(2, .pointer (some ⟨a8, 0, none⟩))] (by kernel_rfl) ?_
 refine EL.done (by kernel_rfl) ?_
 refine EQ.code ?_
 refine EW.ret (by kernel_rfl) ?_
 simp only [Option.some.injEq, Prod.mk.injEq] at H
 obtain ⟨rfl, rfl⟩ := H
 exact EQ.leave (.pointer (some ⟨a8, 0, none⟩)) (by kernel_rfl) ⟨_, rfl, a8, a4, a5, (some ⟨a7, 0, none⟩), (a0.length : Int).toNat, rfl, (hS.re [1, 2, 2] [] rfl (sub_tail (sub_self)))⟩

/-! ### confidant/confidantref9.Of: function 47 -/
def confidantref9_Of.f (K : Nat) (a0 : Int) (a1 : Int) : Option (Int × Bool) := lt (fun (a3 : Bool) => (if a3 = true then (some (0, false)) else (lt (IntKind.i32.wrap (IntKind.i64.wrap ((IntKind.i64.wrap (a0 * 65536)) + a1))) fun a7 => (some (a7, true))))) fun a2 => (if a0 < 0 then (a2 true) else (if a0 ≥ 16 then (a2 true) else (if a1 < 0 then (a2 true) else (a2 (decide (a1 ≥ 65536))))))
set_option maxRecDepth 100000 in
theorem confidantref9_Of.calls {K : Nat} {a0 : Int} {a1 : Int} {a9 : Int} {b0 : Bool} {B w : World} {os : List Ass} {rs : List Ro} (H : confidantref9_Of.f K a0 a1 = some (a9, b0)) (hS : St B w (os) (rs)) :
  Calls Try.prog 47 [.int .i64 a0, .int .i64 a1].toArray w (fun en w' => ∃ v, en = .returned v ∧ v = .tuple #[.int .i32 a9, .bool (b0)] ∧ St B w' (os) (rs)) := by
 unfold confidantref9_Of.f at H
 refine calls_of_EW (args := [.int .i64 a0, .int .i64 a1]) (c := Cd47) 25 Try.func47 (by kernel_rfl) (by kernel_rfl) (by kernel_rfl) ?_
 refine EW.seq (x := Cd47.l) (y := Cd47.r) (by kernel_rfl) ?_
 refine EW.region (id := 0) (ops := Cd47.l.ops) (by kernel_rfl) ?_
 refine EL.quick 2 [0, 1] [(0, .int .i64 a0), (1, .int .i64 a1)] (by kernel_rfl) ?_
 refine EL.done (by kernel_rfl) ?_
 refine EQ.code ?_
 refine EW.seq (x := Cd47.r.l) (y := Cd47.r.r) (by kernel_rfl) ?_
 obtain ⟨a2, b1, H⟩ := lt_out H
 refine EW.cut (x := Cd47.r.l.l) (y := Cd47.r.l.r) (fun a w => ∃ a3 : Bool, Sat 25 [(0, .int .i64 a0), (1, .int .i64 a1), (19, .bool (a3))] a ∧ St B w (os) (rs) ∧ a2 a3 = some (a9, b0)) (by kernel_rfl) ?_ (fun a w hI => ?_)
 ·refine EW.region (id := 1) (ops := Cd47.r.l.l.ops) (by kernel_rfl) ?_
  refine EL.quick 3 [0, 1, 8] [(0, .int .i64 a0), (1, .int .i64 a1), (8, .bool (decide (a0 < 0)))] (by kernel_rfl) ?_
  by_cases a4 : a0 < 0
  ·rw [if_pos a4] at H
   refine EL.keep [0, 1, 8] [(0, .int .i64 a0), (1, .int .i64 a1), (8, .bool (decide (a0 < 0)))] (by kernel_rfl) ?_
   refine EL.as' [(0, .int .i64 a0), (1, .int .i64 a1), (8, .bool (true))] (by simp only [dec_t a4, Bool.not_true, Bool.not_false]) ?_
   refine EL.quick 11 [0, 1, 19] [(0, .int .i64 a0), (1, .int .i64 a1), (19, .bool (true))] (by kernel_rfl) ?_
   refine EL.done (by kernel_rfl) ?_
   refine EQ.to ?_
   refine EQ.keep [0, 1, 19] [(0, .int .i64 a0), (1, .int .i64 a1), (19, .bool (true))] (by kernel_rfl) ?_
   exact fun a ha => ⟨true, ha, (hS.re [] [] rfl (sub_self)), H⟩
  ·rw [if_neg a4] at H
   refine EL.keep [0, 1, 8] [(0, .int .i64 a0), (1, .int .i64 a1), (8, .bool (decide (a0 < 0)))] (by kernel_rfl) ?_
   refine EL.as' [(0, .int .i64 a0), (1, .int .i64 a1), (8, .bool (false))] (by simp only [dec_f a4, Bool.not_true, Bool.not_false]) ?_
   refine EL.quick 4 [0, 1, 12] [(0, .int .i64 a0), (1, .int .i64 a1), (12, .bool (decide (a0 ≥ 16)))] (by kernel_rfl) ?_
   by_cases a5 : a0 ≥ 16
   ·rw [if_pos a5] at H
    refine EL.keep [0, 1, 12] [(0, .int .i64 a0), (1, .int .i64 a1), (12, .bool (decide (a0 ≥ 16)))] (by kernel_rfl) ?_
    refine EL.as' [(0, .int .i64 a0), (1, .int .i64 a1), (12, .bool (true))] (by simp only [dec_t a5, Bool.not_true, Bool.not_false]) ?_
    refine EL.quick 7 [0, 1, 19] [(0, .int .i64 a0), (1, .int .i64 a1), (19, .bool (true))] (by kernel_rfl) ?_
    refine EL.done (by kernel_rfl) ?_
    refine EQ.to ?_
    refine EQ.keep [0, 1, 19] [(0, .int .i64 a0), (1, .int .i64 a1), (19, .bool (true))] (by kernel_rfl) ?_
    exact fun a ha => ⟨true, ha, (hS.re [] [] rfl (sub_self)), H⟩
   ·rw [if_neg a5] at H
    refine EL.keep [0, 1, 12] [(0, .int .i64 a0), (1, .int .i64 a1), (12, .bool (decide (a0 ≥ 16)))] (by kernel_rfl) ?_
    refine EL.as' [(0, .int .i64 a0), (1, .int .i64 a1), (12, .bool (false))] (by simp only [dec_f a5, Bool.not_true, Bool.not_false]) ?_
    refine EL.quick 4 [0, 1, 16] [(0, .int .i64 a0), (1, .int .i64 a1), (16, .bool (decide (a1 < 0)))] (by kernel_rfl) ?_
    by_cases a6 : a1 < 0
    ·rw [if_pos a6] at H
     refine EL.keep [0, 1, 16] [(0, .int .i64 a0), (1, .int .i64 a1), (16, .bool (decide (a1 < 0)))] (by kernel_rfl) ?_
     refine EL.as' [(0, .int .i64 a0), (1, .int .i64 a1), (16, .bool (true))] (by simp only [dec_t a6, Bool.not_true, Bool.not_false]) ?_
     refine EL.quick 3 [0, 1, 19] [(0, .int .i64 a0), (1, .int .i64 a1), (19, .bool (true))] (by kernel_rfl) ?_
     refine EL.done (by kernel_rfl) ?_
     refine EQ.to ?_
     refine EQ.keep [0, 1, 19] [(0, .int .i64 a0), (1, .int .i64 a1), (19, .bool (true))] (by kernel_rfl) ?_
     exact fun a ha => ⟨true, ha, (hS.re [] [] rfl (sub_self)), H⟩
    ·rw [if_neg a6] at H
     refine EL.keep [0, 1, 16] [(0, .int .i64 a0), (1, .int .i64 a1), (16, .bool (decide (a1 < 0)))] (by kernel_rfl) ?_
     refine EL.as' [(0, .int .i64 a0), (1, .int .i64 a1), (16, .bool (false))] (by simp only [dec_f a6, Bool.not_true, Bool.not_false]) ?_
     refine EL.quick 3 [0, 1, 19] [(0, .int .i64 a0), (1, .int .i64 a1), (19, .bool (decide (a1 ≥ 65536)))] (by kernel_rfl) ?_
     refine EL.done (by kernel_rfl) ?_
     refine EQ.to ?_
     refine EQ.keep [0, 1, 19] [(0, .int .i64 a0), (1, .int .i64 a1), (19, .bool (decide (a1 ≥ 65536)))] (by kernel_rfl) ?_
     exact fun a ha => ⟨decide (a1 ≥ 65536), ha, (hS.re [] [] rfl (sub_self)), H⟩
 ·obtain ⟨a3, ha, hS, H⟩ := hI
  rw [b1] at H
  (try dsimp only at H)
  refine EW.at ?_ a ha
  clear ha a
  refine EW.condP' (o := (.tmp 19)) (x := Cd47.r.l.r.l) (y := Cd47.r.l.r.r) (a3) (by kernel_rfl) (by kernel_rfl) (fun a8 => ?_) (fun a8 => ?_)
  ·rw [if_pos a8] at H
   refine EW.seq (x := Cd47.r.l.r.l.l) (y := Cd47.r.l.r.l.r) (by kernel_rfl) ?_
   refine EW.region (id := 2) (ops := Cd47.r.l.r.l.l.ops) (by kernel_rfl) ?_
   refine EL.quick 2 [4, 5] [(4, .int .i32 0), (5, .bool (false))] (by kernel_rfl) ?_
   refine EL.done (by kernel_rfl) ?_
   refine EQ.code ?_
   refine EW.ret (by kernel_rfl) ?_
   refine EQ.ret ?_
   simp only [Option.some.injEq, Prod.mk.injEq] at H
   obtain ⟨rfl, rfl⟩ := H
   exact EQ.leave (.tuple #[.int .i32 0, .bool (false)]) (by kernel_rfl) ⟨_, rfl, rfl, (hS.re [] [] rfl (sub_self))⟩
  ·rw [if_neg a8] at H
   refine EW.skip (by kernel_rfl) ?_
   refine EQ.code ?_
   refine EW.seq (x := Cd47.r.r.l) (y := Cd47.r.r.r) (by kernel_rfl) ?_
   refine EW.region (id := 3) (ops := Cd47.r.r.l.ops) (by kernel_rfl) ?_
   refine EL.quick 7 [4, 5] [(4, .int .i32 (IntKind.i32.wrap (IntKind.i64.wrap ((IntKind.i64.wrap (a0 * 65536)) + a1)))), (5, .bool (true))] (by kernel_rfl) ?_
   obtain ⟨a7, b2, H⟩ := lt_out H
   refine EL.keep [4, 5] [(4, .int .i32 (IntKind.i32.wrap (IntKind.i64.wrap ((IntKind.i64.wrap (a0 * 65536)) + a1)))), (5, .bool (true))] (by kernel_rfl) ?_
   refine EL.as' [(4, .int .i32 a7), (5, .bool (true))] (by subst b2; rfl) ?_
   refine EL.done (by kernel_rfl) ?_
   refine EQ.code ?_
   refine EW.ret (by kernel_rfl) ?_
   simp only [Option.some.injEq, Prod.mk.injEq] at H
   obtain ⟨rfl, rfl⟩ := H
   exact EQ.leave (.tuple #[.int .i32 a7, .bool (true)]) (by kernel_rfl) ⟨_, rfl, rfl, (hS.re [] [] rfl (sub_self))⟩

end Go.Proofs.Ytipaaapbapijhaa.G
