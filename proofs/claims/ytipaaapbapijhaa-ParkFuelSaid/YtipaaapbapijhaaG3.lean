import Derived.Test.YtipaaapbapijhaaProg
import Derived.Test.YtipaaapbapijhaaFwEq
import Derived.Test.YtipaaapbapijhaaFwOpen
import Derived.Test.YtipaaapbapijhaaG0
import Derived.Test.YtipaaapbapijhaaG1
import Derived.Test.YtipaaapbapijhaaG2
namespace Go.Proofs.Ytipaaapbapijhaa.G
open Go Go.Fw Go.RowKit Go.Proofs
set_option linter.unusedVariables false
set_option linter.unusedSimpArgs false

/-! ### (*confidant/park.Park).Add: function 15 -/
def park_Park_Add.f (K : Nat) (l3276 : List S60) (a3280 : Int) (a3281 : Int) (a3282 : Int) (l3283 : List Int) (a3286 : Int) (a3287 : Int) (a3288 : Int) (a3289 : Int) (a3290 : Int) (a3291 : Int) (a3292 : Int) (a3293 : Int) (a3294 : Int) : Option (List S60) := b1 (park_copied.f K a3280 a3281 a3282 l3283 a3286 a3287 a3288 a3289 a3290 a3291 a3292 a3293 a3294) fun (t3475 : S60) => (lt ([(⟨(⟨t3475.f0.f0, t3475.f0.f1, t3475.f0.f2, t3475.f0.f3, (⟨t3475.f0.f4.f0, t3475.f0.f4.f1, t3475.f0.f4.f2, t3475.f0.f4.f3⟩ : S33), t3475.f0.f5, t3475.f0.f6, t3475.f0.f7, t3475.f0.f8⟩ : S36), t3475.f1⟩ : S60)] : List S60) fun l3480 => (if (l3276.length + l3480.length) * 104 ≤ 140737488355328 then (lt (l3276 ++ l3480) fun l3482 => (some l3482)) else none))
set_option maxRecDepth 100000 in
theorem park_Park_Add.calls {K : Nat} {l3276 : List S60} {a3280 : Int} {a3281 : Int} {a3282 : Int} {l3283 : List Int} {a3286 : Int} {a3287 : Int} {a3288 : Int} {a3289 : Int} {a3290 : Int} {a3291 : Int} {a3292 : Int} {a3293 : Int} {a3294 : Int} {g3275 : Nat} {A3277 : Option Addr} {C3278 : Nat} {A3284 : Option Addr} {C3285 : Nat} {x3470 : List S60} {B w : World} {os : List Ass} {rs : List Ro} (H : park_Park_Add.f K l3276 a3280 a3281 a3282 l3283 a3286 a3287 a3288 a3289 a3290 a3291 a3292 a3293 a3294 = some x3470) (hS : St B w (Ass.box 93 g3275 [.slice A3277 l3276.length C3278] :: Ass.own 60 kS60 A3277 C3278 l3276 :: os) (Ro.sl (Kd.int .i32) A3284 C3285 l3283 :: rs)) :
    Calls Try.prog 15 [.pointer (some ⟨g3275, 0, none⟩), .agg #[.int .i32 a3280, .int .i64 a3281, .int .i64 a3282, .slice A3284 l3283.length C3285, .int .i32 a3286, .int .i32 a3287, .int .i32 a3288, .int .i32 a3289, .int .i64 a3290, .int .i64 a3291, .int .u32 a3292, .int .i64 a3293], .int .i32 a3294].toArray w (fun en w' => ∃ v, en = .returned v ∧ ∃ A3471 : Option Addr, ∃ C3472 : Nat, v = .tuple #[] ∧ St B w' (Ass.box 93 g3275 [.slice A3471 x3470.length C3472] :: Ass.own 60 kS60 A3471 C3472 x3470 :: os) (Ro.sl (Kd.int .i32) A3284 C3285 l3283 :: rs)) := by
  unfold park_Park_Add.f at H
  refine calls_of_EW (args := [.pointer (some ⟨g3275, 0, none⟩), .agg #[.int .i32 a3280, .int .i64 a3281, .int .i64 a3282, .slice A3284 l3283.length C3285, .int .i32 a3286, .int .i32 a3287, .int .i32 a3288, .int .i32 a3289, .int .i64 a3290, .int .i64 a3291, .int .u32 a3292, .int .i64 a3293], .int .i32 a3294]) (c := Cd15) 19 Try.func15 (by kernel_rfl) (by kernel_rfl) (by kernel_rfl) ?_
  refine EW.seq (x := Cd15.l) (y := Cd15.r) (by kernel_rfl) ?_
  refine EW.region (id := 0) (ops := Cd15.l.ops) (by kernel_rfl) ?_
  refine EL.of (EO.box hS 36 (.agg #[.int .i32 a3280, .int .i64 a3281, .int .i64 a3282, .slice A3284 l3283.length C3285, .int .i32 a3286, .int .i32 a3287, .int .i32 a3288, .int .i32 a3289, .int .i64 a3290, .int .i64 a3291, .int .u32 a3292, .int .i64 a3293]) [.int .i32 a3280, .int .i64 a3281, .int .i64 a3282, .slice A3284 l3283.length C3285, .int .i32 a3286, .int .i32 a3287, .int .i32 a3288, .int .i32 a3289, .int .i64 a3290, .int .i64 a3291, .int .u32 a3292, .int .i64 a3293] 4 (by kernel_rfl) (by kernel_rfl) (by kernel_rfl) (by first | rfl | kernel_rfl) ?_)
  intro g3474 w hS
  refine EL.done (by kernel_rfl) ?_
  refine EQ.code ?_
  obtain ⟨t3475, hc3478, H⟩ := b1_out H
  obtain ⟨l3480, hl3480, H⟩ := lt_out H
  obtain ⟨h3481, H⟩ := ite_in H
  obtain ⟨l3482, hl3482, H⟩ := lt_out H
  refine EW.meet (id := 1) (ops := Cd15.r.ops) (fun a w => ∃ A3498 : Option Addr, ∃ C3499 : Nat, ∃ A3500 : Option Addr, ∃ C3501 : Nat, Sat 19 [] a ∧ St B w (Ass.own 60 kS60 A3498 C3499 l3480 :: Ass.box 36 g3474 [.int .i32 a3280, .int .i64 a3281, .int .i64 a3282, .slice A3284 l3283.length C3285, .int .i32 a3286, .int .i32 a3287, .int .i32 a3288, .int .i32 a3289, .int .i64 a3290, .int .i64 a3291, .int .u32 a3292, .int .i64 a3293] :: Ass.box 93 g3275 [.slice A3500 l3482.length C3501] :: Ass.own 60 kS60 A3500 C3501 l3482 :: os) (Ro.sl (Kd.int .i32) A3284 C3285 l3283 :: Ro.sl (Kd.int .i32) A3284 C3285 l3283 :: rs)) (by kernel_rfl) ?_ (fun a w hI => ?_)
  · have hS := hS.drew
    refine EW.draw (B := B) (id := 1) (ops := Cd15.r.ops) [Ass.box 36 g3474 [.int .i32 a3280, .int .i64 a3281, .int .i64 a3282, .slice A3284 l3283.length C3285, .int .i32 a3286, .int .i32 a3287, .int .i32 a3288, .int .i32 a3289, .int .i64 a3290, .int .i64 a3291, .int .u32 a3292, .int .i64 a3293]] [Ro.sl (Kd.int .i32) A3284 C3285 l3283] (by kernel_rfl) (by kernel_rfl) ?_
    have hN : Region.noSelect Cd15.r.ops = true := (by kernel_rfl)
    have hF : freeAll Cd15.r.ops = true := (by kernel_rfl)
    have hC : Core B [Ass.box 36 g3474 [.int .i32 a3280, .int .i64 a3281, .int .i64 a3282, .slice A3284 l3283.length C3285, .int .i32 a3286, .int .i32 a3287, .int .i32 a3288, .int .i32 a3289, .int .i64 a3290, .int .i64 a3291, .int .u32 a3292, .int .i64 a3293]] [Ro.sl (Kd.int .i32) A3284 C3285 l3283] _ := ⟨_, _, hS⟩
    refine ED.quick hN hF hC [0, 1, 2, 3, 6] [4, 6, 9, 12] 9 [(4, .pointer (some ⟨g3474, 0, none⟩)), (6, .pointer (some ⟨g3275, 0, none⟩)), (9, .pointer (some ⟨g3275, 0, none⟩)), (12, .int .i32 a3294)] #[true, true, true, true, false, false, true, false, false, false, false, false, false, false] (by kernel_rfl) (by kernel_rfl) ?_
    refine ED.Y hN hF hC 5 8 #[true, true, true, true, false, true, true, false, false, false, false, false, false, false] (by kernel_rfl) (by kernel_rfl) rfl (fun _ _ _ hS => YO.loadBox hS 0 rfl 36 0 12 (.agg #[.int .i32 a3280, .int .i64 a3281, .int .i64 a3282, .slice A3284 l3283.length C3285, .int .i32 a3286, .int .i32 a3287, .int .i32 a3288, .int .i32 a3289, .int .i64 a3290, .int .i64 a3291, .int .u32 a3292, .int .i64 a3293]) 11 (by kernel_rfl) (by kernel_rfl) (by kernel_rfl) (by kernel_rfl)) ?_
    refine ED.quick hN hF hC [7] [6, 9, 13] 7 [(6, .pointer (some ⟨g3275, 0, none⟩)), (9, .pointer (some ⟨g3275, 0, none⟩)), (13, .agg #[.int .i32 a3280, .int .i64 a3281, .int .i64 a3282, .slice A3284 l3283.length C3285, .int .i32 a3286, .int .i32 a3287, .int .i32 a3288, .int .i32 a3289, .int .i64 a3290, .int .i64 a3291, .int .u32 a3292, .int .i64 a3293, .int .i32 a3294])] #[true, true, true, true, false, true, true, true, false, false, false, false, false, false] (by kernel_rfl) (by kernel_rfl) ?_
    refine ED.two 4 8 6 (by kernel_rfl) (by kernel_rfl) ?_ ?_
    · refine EO.Y (YO.loadBox hS 1 rfl 58 0 1 (.slice A3277 l3276.length C3278) 10 (by kernel_rfl) (by kernel_rfl) (by kernel_rfl) (by kernel_rfl)) ?_
      have hC : Core B [Ass.box 36 g3474 [.int .i32 a3280, .int .i64 a3281, .int .i64 a3282, .slice A3284 l3283.length C3285, .int .i32 a3286, .int .i32 a3287, .int .i32 a3288, .int .i32 a3289, .int .i64 a3290, .int .i64 a3291, .int .u32 a3292, .int .i64 a3293]] [Ro.sl (Kd.int .i32) A3284 C3285 l3283] _ := ⟨_, _, hS⟩
      refine ⟨hC, ?_⟩
      refine ED.at' #[true, true, true, true, true, true, true, true, false, false, false, false, false, false] (by kernel_rfl) ?_
      have hS : St B _ (Ass.box 36 g3474 [.int .i32 a3280, .int .i64 a3281, .int .i64 a3282, .slice A3284 l3283.length C3285, .int .i32 a3286, .int .i32 a3287, .int .i32 a3288, .int .i32 a3289, .int .i64 a3290, .int .i64 a3291, .int .u32 a3292, .int .i64 a3293] :: Ass.box 93 g3275 [.slice A3277 l3276.length C3278] :: Ass.own 60 kS60 A3277 C3278 l3276 :: os) (Ro.sl (Kd.int .i32) A3284 C3285 l3283 :: Ro.sl (Kd.int .i32) A3284 C3285 l3283 :: rs) := hS.re [] [] rfl (sub_cons 0 rfl sub_self)
      refine ED.one 8 5 #[true, true, true, true, true, true, true, true, true, false, false, false, false, false] (by kernel_rfl) (by kernel_rfl) (by kernel_rfl) (EO.callD 44 [.agg #[.int .i32 a3280, .int .i64 a3281, .int .i64 a3282, .slice A3284 l3283.length C3285, .int .i32 a3286, .int .i32 a3287, .int .i32 a3288, .int .i32 a3289, .int .i64 a3290, .int .i64 a3291, .int .u32 a3292, .int .i64 a3293, .int .i32 a3294]] _ 14 (by kernel_rfl) (by kernel_rfl) (by kernel_rfl) (park_copied.calls hc3478 hS) ?_)
      rintro v w ⟨A3502, C3503, rfl, hS⟩
      have hC : Core B [Ass.box 36 g3474 [.int .i32 a3280, .int .i64 a3281, .int .i64 a3282, .slice A3284 l3283.length C3285, .int .i32 a3286, .int .i32 a3287, .int .i32 a3288, .int .i32 a3289, .int .i64 a3290, .int .i64 a3291, .int .u32 a3292, .int .i64 a3293]] [Ro.sl (Kd.int .i32) A3284 C3285 l3283] _ := ⟨_, _, hS.re [0] [] rfl (sub_cons 1 rfl sub_self)⟩
      refine ⟨hC, ?_⟩
      refine ED.one 9 4 #[true, true, true, true, true, true, true, true, true, true, false, false, false, false] (by kernel_rfl) (by kernel_rfl) (by kernel_rfl) (EO.lit hS kS60 60 58 1 #[(0, .agg #[.int .i32 t3475.f0.f0, .int .i64 t3475.f0.f1, .int .i64 t3475.f0.f2, .slice A3502 t3475.f0.f3.length C3503, .int .i32 t3475.f0.f4.f0, .int .i32 t3475.f0.f4.f1, .int .i32 t3475.f0.f4.f2, .int .i32 t3475.f0.f4.f3, .int .i64 t3475.f0.f5, .int .i64 t3475.f0.f6, .int .u32 t3475.f0.f7, .int .i64 t3475.f0.f8, .int .i32 t3475.f1])] [.int .i32 t3475.f0.f0, .int .i64 t3475.f0.f1, .int .i64 t3475.f0.f2, .slice A3502 t3475.f0.f3.length C3503, .int .i32 t3475.f0.f4.f0, .int .i32 t3475.f0.f4.f1, .int .i32 t3475.f0.f4.f2, .int .i32 t3475.f0.f4.f3, .int .i64 t3475.f0.f5, .int .i64 t3475.f0.f6, .int .u32 t3475.f0.f7, .int .i64 t3475.f0.f8, .int .i32 t3475.f1] l3480 15 (by kernel_rfl) (by kernel_rfl) (by kernel_rfl) (fun _ => (by kernel_rfl)) (by rw [hl3480]; rfl) (by kernel_rfl) (fun w G hr => (by rw [hl3480]; exact ⟨[.int .i32 t3475.f0.f0, .int .i64 t3475.f0.f1, .int .i64 t3475.f0.f2, .slice A3502 t3475.f0.f3.length C3503, .int .i32 t3475.f0.f4.f0, .int .i32 t3475.f0.f4.f1, .int .i32 t3475.f0.f4.f2, .int .i32 t3475.f0.f4.f3, .int .i64 t3475.f0.f5, .int .i64 t3475.f0.f6, .int .u32 t3475.f0.f7, .int .i64 t3475.f0.f8, .int .i32 t3475.f1], [], rfl, ⟨[.int .i32 t3475.f0.f0, .int .i64 t3475.f0.f1, .int .i64 t3475.f0.f2, .slice A3502 t3475.f0.f3.length C3503, .int .i32 t3475.f0.f4.f0, .int .i32 t3475.f0.f4.f1, .int .i32 t3475.f0.f4.f2, .int .i32 t3475.f0.f4.f3, .int .i64 t3475.f0.f5, .int .i64 t3475.f0.f6, .int .u32 t3475.f0.f7, .int .i64 t3475.f0.f8], [.int .i32 t3475.f1], rfl, ⟨[.int .i32 t3475.f0.f0], [.int .i64 t3475.f0.f1, .int .i64 t3475.f0.f2, .slice A3502 t3475.f0.f3.length C3503, .int .i32 t3475.f0.f4.f0, .int .i32 t3475.f0.f4.f1, .int .i32 t3475.f0.f4.f2, .int .i32 t3475.f0.f4.f3, .int .i64 t3475.f0.f5, .int .i64 t3475.f0.f6, .int .u32 t3475.f0.f7, .int .i64 t3475.f0.f8], rfl, rfl, ⟨[.int .i64 t3475.f0.f1], [.int .i64 t3475.f0.f2, .slice A3502 t3475.f0.f3.length C3503, .int .i32 t3475.f0.f4.f0, .int .i32 t3475.f0.f4.f1, .int .i32 t3475.f0.f4.f2, .int .i32 t3475.f0.f4.f3, .int .i64 t3475.f0.f5, .int .i64 t3475.f0.f6, .int .u32 t3475.f0.f7, .int .i64 t3475.f0.f8], rfl, rfl, ⟨[.int .i64 t3475.f0.f2], [.slice A3502 t3475.f0.f3.length C3503, .int .i32 t3475.f0.f4.f0, .int .i32 t3475.f0.f4.f1, .int .i32 t3475.f0.f4.f2, .int .i32 t3475.f0.f4.f3, .int .i64 t3475.f0.f5, .int .i64 t3475.f0.f6, .int .u32 t3475.f0.f7, .int .i64 t3475.f0.f8], rfl, rfl, ⟨[.slice A3502 t3475.f0.f3.length C3503], [.int .i32 t3475.f0.f4.f0, .int .i32 t3475.f0.f4.f1, .int .i32 t3475.f0.f4.f2, .int .i32 t3475.f0.f4.f3, .int .i64 t3475.f0.f5, .int .i64 t3475.f0.f6, .int .u32 t3475.f0.f7, .int .i64 t3475.f0.f8], rfl, (hr _ (List.mem_of_getElem? (i := 0) rfl)), ⟨[.int .i32 t3475.f0.f4.f0, .int .i32 t3475.f0.f4.f1, .int .i32 t3475.f0.f4.f2, .int .i32 t3475.f0.f4.f3], [.int .i64 t3475.f0.f5, .int .i64 t3475.f0.f6, .int .u32 t3475.f0.f7, .int .i64 t3475.f0.f8], rfl, ⟨[.int .i32 t3475.f0.f4.f0], [.int .i32 t3475.f0.f4.f1, .int .i32 t3475.f0.f4.f2, .int .i32 t3475.f0.f4.f3], rfl, rfl, ⟨[.int .i32 t3475.f0.f4.f1], [.int .i32 t3475.f0.f4.f2, .int .i32 t3475.f0.f4.f3], rfl, rfl, ⟨[.int .i32 t3475.f0.f4.f2], [.int .i32 t3475.f0.f4.f3], rfl, rfl, ⟨[.int .i32 t3475.f0.f4.f3], [], rfl, rfl, rfl⟩⟩⟩⟩, ⟨[.int .i64 t3475.f0.f5], [.int .i64 t3475.f0.f6, .int .u32 t3475.f0.f7, .int .i64 t3475.f0.f8], rfl, rfl, ⟨[.int .i64 t3475.f0.f6], [.int .u32 t3475.f0.f7, .int .i64 t3475.f0.f8], rfl, rfl, ⟨[.int .u32 t3475.f0.f7], [.int .i64 t3475.f0.f8], rfl, rfl, ⟨[.int .i64 t3475.f0.f8], [], rfl, rfl, rfl⟩⟩⟩⟩⟩⟩⟩⟩⟩, ⟨[.int .i32 t3475.f1], [], rfl, rfl, rfl⟩⟩, rfl⟩)) ?_)
      intro g3504 w hS
      have hC : Core B [Ass.box 36 g3474 [.int .i32 a3280, .int .i64 a3281, .int .i64 a3282, .slice A3284 l3283.length C3285, .int .i32 a3286, .int .i32 a3287, .int .i32 a3288, .int .i32 a3289, .int .i64 a3290, .int .i64 a3291, .int .u32 a3292, .int .i64 a3293]] [Ro.sl (Kd.int .i32) A3284 C3285 l3283] _ := ⟨_, _, hS.re [1] [] rfl (sub_cons 1 rfl sub_self)⟩
      refine ⟨hC, ?_⟩
      refine ED.one 10 3 #[true, true, true, true, true, true, true, true, true, true, true, false, false, false] (by kernel_rfl) (by kernel_rfl) (by kernel_rfl) (EO.append hS 58 58 60 104 3 kS60 A3277 C3278 l3276 rfl (some ⟨g3504, 0, none⟩) 1 l3480 (Rd.own 0 60 rfl) l3482 hl3482 (fun A3505 C3506 => Ass.own 60 kS60 (some ⟨g3504, 0, none⟩) 1 l3480 :: Ass.box 36 g3474 [.int .i32 a3280, .int .i64 a3281, .int .i64 a3282, .slice A3284 l3283.length C3285, .int .i32 a3286, .int .i32 a3287, .int .i32 a3288, .int .i32 a3289, .int .i64 a3290, .int .i64 a3291, .int .u32 a3292, .int .i64 a3293] :: Ass.box 93 g3275 [.slice A3277 l3276.length C3278] :: Ass.own 60 kS60 A3505 C3506 l3482 :: os) 16 (by kernel_rfl) (by kernel_rfl) (by kernel_rfl) (by kernel_rfl) h3481 (fun _ _ => rfl) ?_)
      intro A3505 C3506 w hS
      have hC : Core B [Ass.box 36 g3474 [.int .i32 a3280, .int .i64 a3281, .int .i64 a3282, .slice A3284 l3283.length C3285, .int .i32 a3286, .int .i32 a3287, .int .i32 a3288, .int .i32 a3289, .int .i64 a3290, .int .i64 a3291, .int .u32 a3292, .int .i64 a3293]] [Ro.sl (Kd.int .i32) A3284 C3285 l3283] _ := ⟨_, _, hS.re [1] [] rfl (sub_cons 1 rfl sub_self)⟩
      refine ⟨hC, ?_⟩
      refine ED.quick hN hF hC [11, 12] [16, 18] 1 [(16, .slice A3505 l3482.length C3506), (18, .pointer (some ⟨g3275, 0, none⟩))] #[true, true, true, true, true, true, true, true, true, true, true, true, true, false] (by kernel_rfl) (by kernel_rfl) ?_
      refine ED.one 13 0 #[true, true, true, true, true, true, true, true, true, true, true, true, true, true] (by kernel_rfl) (by kernel_rfl) (by kernel_rfl) (EO.storeBox (os' := Ass.own 60 kS60 (some ⟨g3504, 0, none⟩) 1 l3480 :: Ass.box 36 g3474 [.int .i32 a3280, .int .i64 a3281, .int .i64 a3282, .slice A3284 l3283.length C3285, .int .i32 a3286, .int .i32 a3287, .int .i32 a3288, .int .i32 a3289, .int .i64 a3290, .int .i64 a3291, .int .u32 a3292, .int .i64 a3293] :: Ass.box 93 g3275 [.slice A3505 l3482.length C3506] :: Ass.own 60 kS60 A3505 C3506 l3482 :: os) hS 2 rfl 58 0 (.slice A3505 l3482.length C3506) [.slice A3505 l3482.length C3506] (by kernel_rfl) (by kernel_rfl) (by kernel_rfl) (by kernel_rfl) (by kernel_rfl) (by kernel_rfl) rfl rfl ?_)
      intro w hS
      have hC : Core B [Ass.box 36 g3474 [.int .i32 a3280, .int .i64 a3281, .int .i64 a3282, .slice A3284 l3283.length C3285, .int .i32 a3286, .int .i32 a3287, .int .i32 a3288, .int .i32 a3289, .int .i64 a3290, .int .i64 a3291, .int .u32 a3292, .int .i64 a3293]] [Ro.sl (Kd.int .i32) A3284 C3285 l3283] _ := ⟨_, _, hS.re [1] [] rfl (sub_cons 1 rfl sub_self)⟩
      refine ⟨hC, ?_⟩
      refine ED.done (by kernel_rfl) ?_
      refine EQ.to ?_
      refine EQ.keep [] [] (by kernel_rfl) ?_
      exact fun a ha => ⟨(some ⟨g3504, 0, none⟩), 1, A3505, C3506, ha, (hS.re [3, 3, 3, 3] [] rfl (sub_cons 1 rfl (sub_cons 1 rfl (sub_tail (sub_tail (sub_tail (sub_self)))))))⟩
    · have hS : St B _ (Ass.box 36 g3474 [.int .i32 a3280, .int .i64 a3281, .int .i64 a3282, .slice A3284 l3283.length C3285, .int .i32 a3286, .int .i32 a3287, .int .i32 a3288, .int .i32 a3289, .int .i64 a3290, .int .i64 a3291, .int .u32 a3292, .int .i64 a3293] :: Ass.box 93 g3275 [.slice A3277 l3276.length C3278] :: Ass.own 60 kS60 A3277 C3278 l3276 :: os) (Ro.sl (Kd.int .i32) A3284 C3285 l3283 :: Ro.sl (Kd.int .i32) A3284 C3285 l3283 :: rs) := hS.re [] [] rfl (sub_cons 0 rfl sub_self)
      refine EO.callD 44 [.agg #[.int .i32 a3280, .int .i64 a3281, .int .i64 a3282, .slice A3284 l3283.length C3285, .int .i32 a3286, .int .i32 a3287, .int .i32 a3288, .int .i32 a3289, .int .i64 a3290, .int .i64 a3291, .int .u32 a3292, .int .i64 a3293, .int .i32 a3294]] _ 14 (by kernel_rfl) (by kernel_rfl) (by kernel_rfl) (park_copied.calls hc3478 hS) ?_
      rintro v w ⟨A3507, C3508, rfl, hS⟩
      have hC : Core B [Ass.box 36 g3474 [.int .i32 a3280, .int .i64 a3281, .int .i64 a3282, .slice A3284 l3283.length C3285, .int .i32 a3286, .int .i32 a3287, .int .i32 a3288, .int .i32 a3289, .int .i64 a3290, .int .i64 a3291, .int .u32 a3292, .int .i64 a3293]] [Ro.sl (Kd.int .i32) A3284 C3285 l3283] _ := ⟨_, _, hS.re [0] [] rfl (sub_cons 1 rfl sub_self)⟩
      refine ⟨hC, ?_⟩
      refine ED.at' #[true, true, true, true, false, true, true, true, true, false, false, false, false, false] (by kernel_rfl) ?_
      refine ED.two 4 9 5 (by kernel_rfl) (by kernel_rfl) ?_ ?_
      · refine EO.Y (YO.loadBox hS 1 rfl 58 0 1 (.slice A3277 l3276.length C3278) 10 (by kernel_rfl) (by kernel_rfl) (by kernel_rfl) (by kernel_rfl)) ?_
        have hC : Core B [Ass.box 36 g3474 [.int .i32 a3280, .int .i64 a3281, .int .i64 a3282, .slice A3284 l3283.length C3285, .int .i32 a3286, .int .i32 a3287, .int .i32 a3288, .int .i32 a3289, .int .i64 a3290, .int .i64 a3291, .int .u32 a3292, .int .i64 a3293]] [Ro.sl (Kd.int .i32) A3284 C3285 l3283] _ := ⟨_, _, hS.re [0] [] rfl (sub_cons 1 rfl sub_self)⟩
        refine ⟨hC, ?_⟩
        refine ED.at' #[true, true, true, true, true, true, true, true, true, false, false, false, false, false] (by kernel_rfl) ?_
        refine ED.one 9 4 #[true, true, true, true, true, true, true, true, true, true, false, false, false, false] (by kernel_rfl) (by kernel_rfl) (by kernel_rfl) (EO.lit hS kS60 60 58 1 #[(0, .agg #[.int .i32 t3475.f0.f0, .int .i64 t3475.f0.f1, .int .i64 t3475.f0.f2, .slice A3507 t3475.f0.f3.length C3508, .int .i32 t3475.f0.f4.f0, .int .i32 t3475.f0.f4.f1, .int .i32 t3475.f0.f4.f2, .int .i32 t3475.f0.f4.f3, .int .i64 t3475.f0.f5, .int .i64 t3475.f0.f6, .int .u32 t3475.f0.f7, .int .i64 t3475.f0.f8, .int .i32 t3475.f1])] [.int .i32 t3475.f0.f0, .int .i64 t3475.f0.f1, .int .i64 t3475.f0.f2, .slice A3507 t3475.f0.f3.length C3508, .int .i32 t3475.f0.f4.f0, .int .i32 t3475.f0.f4.f1, .int .i32 t3475.f0.f4.f2, .int .i32 t3475.f0.f4.f3, .int .i64 t3475.f0.f5, .int .i64 t3475.f0.f6, .int .u32 t3475.f0.f7, .int .i64 t3475.f0.f8, .int .i32 t3475.f1] l3480 15 (by kernel_rfl) (by kernel_rfl) (by kernel_rfl) (fun _ => (by kernel_rfl)) (by rw [hl3480]; rfl) (by kernel_rfl) (fun w G hr => (by rw [hl3480]; exact ⟨[.int .i32 t3475.f0.f0, .int .i64 t3475.f0.f1, .int .i64 t3475.f0.f2, .slice A3507 t3475.f0.f3.length C3508, .int .i32 t3475.f0.f4.f0, .int .i32 t3475.f0.f4.f1, .int .i32 t3475.f0.f4.f2, .int .i32 t3475.f0.f4.f3, .int .i64 t3475.f0.f5, .int .i64 t3475.f0.f6, .int .u32 t3475.f0.f7, .int .i64 t3475.f0.f8, .int .i32 t3475.f1], [], rfl, ⟨[.int .i32 t3475.f0.f0, .int .i64 t3475.f0.f1, .int .i64 t3475.f0.f2, .slice A3507 t3475.f0.f3.length C3508, .int .i32 t3475.f0.f4.f0, .int .i32 t3475.f0.f4.f1, .int .i32 t3475.f0.f4.f2, .int .i32 t3475.f0.f4.f3, .int .i64 t3475.f0.f5, .int .i64 t3475.f0.f6, .int .u32 t3475.f0.f7, .int .i64 t3475.f0.f8], [.int .i32 t3475.f1], rfl, ⟨[.int .i32 t3475.f0.f0], [.int .i64 t3475.f0.f1, .int .i64 t3475.f0.f2, .slice A3507 t3475.f0.f3.length C3508, .int .i32 t3475.f0.f4.f0, .int .i32 t3475.f0.f4.f1, .int .i32 t3475.f0.f4.f2, .int .i32 t3475.f0.f4.f3, .int .i64 t3475.f0.f5, .int .i64 t3475.f0.f6, .int .u32 t3475.f0.f7, .int .i64 t3475.f0.f8], rfl, rfl, ⟨[.int .i64 t3475.f0.f1], [.int .i64 t3475.f0.f2, .slice A3507 t3475.f0.f3.length C3508, .int .i32 t3475.f0.f4.f0, .int .i32 t3475.f0.f4.f1, .int .i32 t3475.f0.f4.f2, .int .i32 t3475.f0.f4.f3, .int .i64 t3475.f0.f5, .int .i64 t3475.f0.f6, .int .u32 t3475.f0.f7, .int .i64 t3475.f0.f8], rfl, rfl, ⟨[.int .i64 t3475.f0.f2], [.slice A3507 t3475.f0.f3.length C3508, .int .i32 t3475.f0.f4.f0, .int .i32 t3475.f0.f4.f1, .int .i32 t3475.f0.f4.f2, .int .i32 t3475.f0.f4.f3, .int .i64 t3475.f0.f5, .int .i64 t3475.f0.f6, .int .u32 t3475.f0.f7, .int .i64 t3475.f0.f8], rfl, rfl, ⟨[.slice A3507 t3475.f0.f3.length C3508], [.int .i32 t3475.f0.f4.f0, .int .i32 t3475.f0.f4.f1, .int .i32 t3475.f0.f4.f2, .int .i32 t3475.f0.f4.f3, .int .i64 t3475.f0.f5, .int .i64 t3475.f0.f6, .int .u32 t3475.f0.f7, .int .i64 t3475.f0.f8], rfl, (hr _ (List.mem_of_getElem? (i := 0) rfl)), ⟨[.int .i32 t3475.f0.f4.f0, .int .i32 t3475.f0.f4.f1, .int .i32 t3475.f0.f4.f2, .int .i32 t3475.f0.f4.f3], [.int .i64 t3475.f0.f5, .int .i64 t3475.f0.f6, .int .u32 t3475.f0.f7, .int .i64 t3475.f0.f8], rfl, ⟨[.int .i32 t3475.f0.f4.f0], [.int .i32 t3475.f0.f4.f1, .int .i32 t3475.f0.f4.f2, .int .i32 t3475.f0.f4.f3], rfl, rfl, ⟨[.int .i32 t3475.f0.f4.f1], [.int .i32 t3475.f0.f4.f2, .int .i32 t3475.f0.f4.f3], rfl, rfl, ⟨[.int .i32 t3475.f0.f4.f2], [.int .i32 t3475.f0.f4.f3], rfl, rfl, ⟨[.int .i32 t3475.f0.f4.f3], [], rfl, rfl, rfl⟩⟩⟩⟩, ⟨[.int .i64 t3475.f0.f5], [.int .i64 t3475.f0.f6, .int .u32 t3475.f0.f7, .int .i64 t3475.f0.f8], rfl, rfl, ⟨[.int .i64 t3475.f0.f6], [.int .u32 t3475.f0.f7, .int .i64 t3475.f0.f8], rfl, rfl, ⟨[.int .u32 t3475.f0.f7], [.int .i64 t3475.f0.f8], rfl, rfl, ⟨[.int .i64 t3475.f0.f8], [], rfl, rfl, rfl⟩⟩⟩⟩⟩⟩⟩⟩⟩, ⟨[.int .i32 t3475.f1], [], rfl, rfl, rfl⟩⟩, rfl⟩)) ?_)
        intro g3509 w hS
        have hC : Core B [Ass.box 36 g3474 [.int .i32 a3280, .int .i64 a3281, .int .i64 a3282, .slice A3284 l3283.length C3285, .int .i32 a3286, .int .i32 a3287, .int .i32 a3288, .int .i32 a3289, .int .i64 a3290, .int .i64 a3291, .int .u32 a3292, .int .i64 a3293]] [Ro.sl (Kd.int .i32) A3284 C3285 l3283] _ := ⟨_, _, hS.re [1] [] rfl (sub_cons 1 rfl sub_self)⟩
        refine ⟨hC, ?_⟩
        refine ED.one 10 3 #[true, true, true, true, true, true, true, true, true, true, true, false, false, false] (by kernel_rfl) (by kernel_rfl) (by kernel_rfl) (EO.append hS 58 58 60 104 3 kS60 A3277 C3278 l3276 rfl (some ⟨g3509, 0, none⟩) 1 l3480 (Rd.own 0 60 rfl) l3482 hl3482 (fun A3510 C3511 => Ass.own 60 kS60 (some ⟨g3509, 0, none⟩) 1 l3480 :: Ass.box 36 g3474 [.int .i32 a3280, .int .i64 a3281, .int .i64 a3282, .slice A3284 l3283.length C3285, .int .i32 a3286, .int .i32 a3287, .int .i32 a3288, .int .i32 a3289, .int .i64 a3290, .int .i64 a3291, .int .u32 a3292, .int .i64 a3293] :: Ass.box 93 g3275 [.slice A3277 l3276.length C3278] :: Ass.own 60 kS60 A3510 C3511 l3482 :: os) 16 (by kernel_rfl) (by kernel_rfl) (by kernel_rfl) (by kernel_rfl) h3481 (fun _ _ => rfl) ?_)
        intro A3510 C3511 w hS
        have hC : Core B [Ass.box 36 g3474 [.int .i32 a3280, .int .i64 a3281, .int .i64 a3282, .slice A3284 l3283.length C3285, .int .i32 a3286, .int .i32 a3287, .int .i32 a3288, .int .i32 a3289, .int .i64 a3290, .int .i64 a3291, .int .u32 a3292, .int .i64 a3293]] [Ro.sl (Kd.int .i32) A3284 C3285 l3283] _ := ⟨_, _, hS.re [1] [] rfl (sub_cons 1 rfl sub_self)⟩
        refine ⟨hC, ?_⟩
        refine ED.quick hN hF hC [11, 12] [16, 18] 1 [(16, .slice A3510 l3482.length C3511), (18, .pointer (some ⟨g3275, 0, none⟩))] #[true, true, true, true, true, true, true, true, true, true, true, true, true, false] (by kernel_rfl) (by kernel_rfl) ?_
        refine ED.one 13 0 #[true, true, true, true, true, true, true, true, true, true, true, true, true, true] (by kernel_rfl) (by kernel_rfl) (by kernel_rfl) (EO.storeBox (os' := Ass.own 60 kS60 (some ⟨g3509, 0, none⟩) 1 l3480 :: Ass.box 36 g3474 [.int .i32 a3280, .int .i64 a3281, .int .i64 a3282, .slice A3284 l3283.length C3285, .int .i32 a3286, .int .i32 a3287, .int .i32 a3288, .int .i32 a3289, .int .i64 a3290, .int .i64 a3291, .int .u32 a3292, .int .i64 a3293] :: Ass.box 93 g3275 [.slice A3510 l3482.length C3511] :: Ass.own 60 kS60 A3510 C3511 l3482 :: os) hS 2 rfl 58 0 (.slice A3510 l3482.length C3511) [.slice A3510 l3482.length C3511] (by kernel_rfl) (by kernel_rfl) (by kernel_rfl) (by kernel_rfl) (by kernel_rfl) (by kernel_rfl) rfl rfl ?_)
        intro w hS
        have hC : Core B [Ass.box 36 g3474 [.int .i32 a3280, .int .i64 a3281, .int .i64 a3282, .slice A3284 l3283.length C3285, .int .i32 a3286, .int .i32 a3287, .int .i32 a3288, .int .i32 a3289, .int .i64 a3290, .int .i64 a3291, .int .u32 a3292, .int .i64 a3293]] [Ro.sl (Kd.int .i32) A3284 C3285 l3283] _ := ⟨_, _, hS.re [1] [] rfl (sub_cons 1 rfl sub_self)⟩
        refine ⟨hC, ?_⟩
        refine ED.done (by kernel_rfl) ?_
        refine EQ.to ?_
        refine EQ.keep [] [] (by kernel_rfl) ?_
        exact fun a ha => ⟨(some ⟨g3509, 0, none⟩), 1, A3510, C3511, ha, (hS.re [3, 3, 3, 3] [] rfl (sub_cons 1 rfl (sub_cons 1 rfl (sub_tail (sub_tail (sub_tail (sub_self)))))))⟩
      · refine EO.lit hS kS60 60 58 1 #[(0, .agg #[.int .i32 t3475.f0.f0, .int .i64 t3475.f0.f1, .int .i64 t3475.f0.f2, .slice A3507 t3475.f0.f3.length C3508, .int .i32 t3475.f0.f4.f0, .int .i32 t3475.f0.f4.f1, .int .i32 t3475.f0.f4.f2, .int .i32 t3475.f0.f4.f3, .int .i64 t3475.f0.f5, .int .i64 t3475.f0.f6, .int .u32 t3475.f0.f7, .int .i64 t3475.f0.f8, .int .i32 t3475.f1])] [.int .i32 t3475.f0.f0, .int .i64 t3475.f0.f1, .int .i64 t3475.f0.f2, .slice A3507 t3475.f0.f3.length C3508, .int .i32 t3475.f0.f4.f0, .int .i32 t3475.f0.f4.f1, .int .i32 t3475.f0.f4.f2, .int .i32 t3475.f0.f4.f3, .int .i64 t3475.f0.f5, .int .i64 t3475.f0.f6, .int .u32 t3475.f0.f7, .int .i64 t3475.f0.f8, .int .i32 t3475.f1] l3480 15 (by kernel_rfl) (by kernel_rfl) (by kernel_rfl) (fun _ => (by kernel_rfl)) (by rw [hl3480]; rfl) (by kernel_rfl) (fun w G hr => (by rw [hl3480]; exact ⟨[.int .i32 t3475.f0.f0, .int .i64 t3475.f0.f1, .int .i64 t3475.f0.f2, .slice A3507 t3475.f0.f3.length C3508, .int .i32 t3475.f0.f4.f0, .int .i32 t3475.f0.f4.f1, .int .i32 t3475.f0.f4.f2, .int .i32 t3475.f0.f4.f3, .int .i64 t3475.f0.f5, .int .i64 t3475.f0.f6, .int .u32 t3475.f0.f7, .int .i64 t3475.f0.f8, .int .i32 t3475.f1], [], rfl, ⟨[.int .i32 t3475.f0.f0, .int .i64 t3475.f0.f1, .int .i64 t3475.f0.f2, .slice A3507 t3475.f0.f3.length C3508, .int .i32 t3475.f0.f4.f0, .int .i32 t3475.f0.f4.f1, .int .i32 t3475.f0.f4.f2, .int .i32 t3475.f0.f4.f3, .int .i64 t3475.f0.f5, .int .i64 t3475.f0.f6, .int .u32 t3475.f0.f7, .int .i64 t3475.f0.f8], [.int .i32 t3475.f1], rfl, ⟨[.int .i32 t3475.f0.f0], [.int .i64 t3475.f0.f1, .int .i64 t3475.f0.f2, .slice A3507 t3475.f0.f3.length C3508, .int .i32 t3475.f0.f4.f0, .int .i32 t3475.f0.f4.f1, .int .i32 t3475.f0.f4.f2, .int .i32 t3475.f0.f4.f3, .int .i64 t3475.f0.f5, .int .i64 t3475.f0.f6, .int .u32 t3475.f0.f7, .int .i64 t3475.f0.f8], rfl, rfl, ⟨[.int .i64 t3475.f0.f1], [.int .i64 t3475.f0.f2, .slice A3507 t3475.f0.f3.length C3508, .int .i32 t3475.f0.f4.f0, .int .i32 t3475.f0.f4.f1, .int .i32 t3475.f0.f4.f2, .int .i32 t3475.f0.f4.f3, .int .i64 t3475.f0.f5, .int .i64 t3475.f0.f6, .int .u32 t3475.f0.f7, .int .i64 t3475.f0.f8], rfl, rfl, ⟨[.int .i64 t3475.f0.f2], [.slice A3507 t3475.f0.f3.length C3508, .int .i32 t3475.f0.f4.f0, .int .i32 t3475.f0.f4.f1, .int .i32 t3475.f0.f4.f2, .int .i32 t3475.f0.f4.f3, .int .i64 t3475.f0.f5, .int .i64 t3475.f0.f6, .int .u32 t3475.f0.f7, .int .i64 t3475.f0.f8], rfl, rfl, ⟨[.slice A3507 t3475.f0.f3.length C3508], [.int .i32 t3475.f0.f4.f0, .int .i32 t3475.f0.f4.f1, .int .i32 t3475.f0.f4.f2, .int .i32 t3475.f0.f4.f3, .int .i64 t3475.f0.f5, .int .i64 t3475.f0.f6, .int .u32 t3475.f0.f7, .int .i64 t3475.f0.f8], rfl, (hr _ (List.mem_of_getElem? (i := 0) rfl)), ⟨[.int .i32 t3475.f0.f4.f0, .int .i32 t3475.f0.f4.f1, .int .i32 t3475.f0.f4.f2, .int .i32 t3475.f0.f4.f3], [.int .i64 t3475.f0.f5, .int .i64 t3475.f0.f6, .int .u32 t3475.f0.f7, .int .i64 t3475.f0.f8], rfl, ⟨[.int .i32 t3475.f0.f4.f0], [.int .i32 t3475.f0.f4.f1, .int .i32 t3475.f0.f4.f2, .int .i32 t3475.f0.f4.f3], rfl, rfl, ⟨[.int .i32 t3475.f0.f4.f1], [.int .i32 t3475.f0.f4.f2, .int .i32 t3475.f0.f4.f3], rfl, rfl, ⟨[.int .i32 t3475.f0.f4.f2], [.int .i32 t3475.f0.f4.f3], rfl, rfl, ⟨[.int .i32 t3475.f0.f4.f3], [], rfl, rfl, rfl⟩⟩⟩⟩, ⟨[.int .i64 t3475.f0.f5], [.int .i64 t3475.f0.f6, .int .u32 t3475.f0.f7, .int .i64 t3475.f0.f8], rfl, rfl, ⟨[.int .i64 t3475.f0.f6], [.int .u32 t3475.f0.f7, .int .i64 t3475.f0.f8], rfl, rfl, ⟨[.int .u32 t3475.f0.f7], [.int .i64 t3475.f0.f8], rfl, rfl, ⟨[.int .i64 t3475.f0.f8], [], rfl, rfl, rfl⟩⟩⟩⟩⟩⟩⟩⟩⟩, ⟨[.int .i32 t3475.f1], [], rfl, rfl, rfl⟩⟩, rfl⟩)) ?_
        intro g3512 w hS
        have hC : Core B [Ass.box 36 g3474 [.int .i32 a3280, .int .i64 a3281, .int .i64 a3282, .slice A3284 l3283.length C3285, .int .i32 a3286, .int .i32 a3287, .int .i32 a3288, .int .i32 a3289, .int .i64 a3290, .int .i64 a3291, .int .u32 a3292, .int .i64 a3293]] [Ro.sl (Kd.int .i32) A3284 C3285 l3283] _ := ⟨_, _, hS.re [1] [] rfl (sub_cons 1 rfl sub_self)⟩
        refine ⟨hC, ?_⟩
        refine ED.at' #[true, true, true, true, false, true, true, true, true, true, false, false, false, false] (by kernel_rfl) ?_
        refine ED.one 4 4 #[true, true, true, true, true, true, true, true, true, true, false, false, false, false] (by kernel_rfl) (by kernel_rfl) (by kernel_rfl) (EO.Y (YO.loadBox hS 2 rfl 58 0 1 (.slice A3277 l3276.length C3278) 10 (by kernel_rfl) (by kernel_rfl) (by kernel_rfl) (by kernel_rfl)) ?_)
        have hC : Core B [Ass.box 36 g3474 [.int .i32 a3280, .int .i64 a3281, .int .i64 a3282, .slice A3284 l3283.length C3285, .int .i32 a3286, .int .i32 a3287, .int .i32 a3288, .int .i32 a3289, .int .i64 a3290, .int .i64 a3291, .int .u32 a3292, .int .i64 a3293]] [Ro.sl (Kd.int .i32) A3284 C3285 l3283] _ := ⟨_, _, hS.re [1] [] rfl (sub_cons 1 rfl sub_self)⟩
        refine ⟨hC, ?_⟩
        refine ED.one 10 3 #[true, true, true, true, true, true, true, true, true, true, true, false, false, false] (by kernel_rfl) (by kernel_rfl) (by kernel_rfl) (EO.append hS 58 58 60 104 3 kS60 A3277 C3278 l3276 rfl (some ⟨g3512, 0, none⟩) 1 l3480 (Rd.own 0 60 rfl) l3482 hl3482 (fun A3513 C3514 => Ass.own 60 kS60 (some ⟨g3512, 0, none⟩) 1 l3480 :: Ass.box 36 g3474 [.int .i32 a3280, .int .i64 a3281, .int .i64 a3282, .slice A3284 l3283.length C3285, .int .i32 a3286, .int .i32 a3287, .int .i32 a3288, .int .i32 a3289, .int .i64 a3290, .int .i64 a3291, .int .u32 a3292, .int .i64 a3293] :: Ass.box 93 g3275 [.slice A3277 l3276.length C3278] :: Ass.own 60 kS60 A3513 C3514 l3482 :: os) 16 (by kernel_rfl) (by kernel_rfl) (by kernel_rfl) (by kernel_rfl) h3481 (fun _ _ => rfl) ?_)
        intro A3513 C3514 w hS
        have hC : Core B [Ass.box 36 g3474 [.int .i32 a3280, .int .i64 a3281, .int .i64 a3282, .slice A3284 l3283.length C3285, .int .i32 a3286, .int .i32 a3287, .int .i32 a3288, .int .i32 a3289, .int .i64 a3290, .int .i64 a3291, .int .u32 a3292, .int .i64 a3293]] [Ro.sl (Kd.int .i32) A3284 C3285 l3283] _ := ⟨_, _, hS.re [1] [] rfl (sub_cons 1 rfl sub_self)⟩
        refine ⟨hC, ?_⟩
        refine ED.quick hN hF hC [11, 12] [16, 18] 1 [(16, .slice A3513 l3482.length C3514), (18, .pointer (some ⟨g3275, 0, none⟩))] #[true, true, true, true, true, true, true, true, true, true, true, true, true, false] (by kernel_rfl) (by kernel_rfl) ?_
        refine ED.one 13 0 #[true, true, true, true, true, true, true, true, true, true, true, true, true, true] (by kernel_rfl) (by kernel_rfl) (by kernel_rfl) (EO.storeBox (os' := Ass.own 60 kS60 (some ⟨g3512, 0, none⟩) 1 l3480 :: Ass.box 36 g3474 [.int .i32 a3280, .int .i64 a3281, .int .i64 a3282, .slice A3284 l3283.length C3285, .int .i32 a3286, .int .i32 a3287, .int .i32 a3288, .int .i32 a3289, .int .i64 a3290, .int .i64 a3291, .int .u32 a3292, .int .i64 a3293] :: Ass.box 93 g3275 [.slice A3513 l3482.length C3514] :: Ass.own 60 kS60 A3513 C3514 l3482 :: os) hS 2 rfl 58 0 (.slice A3513 l3482.length C3514) [.slice A3513 l3482.length C3514] (by kernel_rfl) (by kernel_rfl) (by kernel_rfl) (by kernel_rfl) (by kernel_rfl) (by kernel_rfl) rfl rfl ?_)
        intro w hS
        have hC : Core B [Ass.box 36 g3474 [.int .i32 a3280, .int .i64 a3281, .int .i64 a3282, .slice A3284 l3283.length C3285, .int .i32 a3286, .int .i32 a3287, .int .i32 a3288, .int .i32 a3289, .int .i64 a3290, .int .i64 a3291, .int .u32 a3292, .int .i64 a3293]] [Ro.sl (Kd.int .i32) A3284 C3285 l3283] _ := ⟨_, _, hS.re [1] [] rfl (sub_cons 1 rfl sub_self)⟩
        refine ⟨hC, ?_⟩
        refine ED.done (by kernel_rfl) ?_
        refine EQ.to ?_
        refine EQ.keep [] [] (by kernel_rfl) ?_
        exact fun a ha => ⟨(some ⟨g3512, 0, none⟩), 1, A3513, C3514, ha, (hS.re [3, 3, 3, 3] [] rfl (sub_cons 1 rfl (sub_cons 1 rfl (sub_tail (sub_tail (sub_tail (sub_self)))))))⟩
  · obtain ⟨A3498, C3499, A3500, C3501, ha, hS⟩ := hI
    refine EQ.at ?_ a ha
    clear ha a
    obtain rfl := Option.some.inj H
    exact EQ.leaveN (.tuple #[]) (by kernel_rfl) ⟨_, rfl, A3500, C3501, rfl, (hS.re [3, 3] [2, 2] rfl (sub_tail (sub_self)))⟩

/-! ### (*confidant/future.Futures).Get: function 66 -/
def future_Futures_Get.f (K : Nat) (l3605 : List (List S96)) (l3609 : List Int) (a3613 : Int) : Option (S96 × Bool) := b1 (ident_Label.f K a3613) fun (t4086 : Int) => (b1 (ident_Number.f K a3613) fun (t4088 : Int) => (lt (fun (x4130 : Bool) => (if x4130 = true then (some ((⟨0, 0, 0, 0⟩ : S96), false)) else (if 0 ≤ t4086 then (if t4086 < (l3605.length : Int) then (if 0 ≤ t4088 then (if t4088 < ((l3605.getD t4086.toNat []).length : Int) then (some ((⟨((l3605.getD t4086.toNat []).getD t4088.toNat zS96).f0, ((l3605.getD t4086.toNat []).getD t4088.toNat zS96).f1, ((l3605.getD t4086.toNat []).getD t4088.toNat zS96).f2, ((l3605.getD t4086.toNat []).getD t4088.toNat zS96).f3⟩ : S96), true)) else none) else none) else none) else none))) fun j4131 => (if t4086 < 0 then (j4131 true) else (if t4086 ≥ (l3605.length : Int) then (j4131 true) else (if 0 ≤ t4086 then (if t4086 < (l3605.length : Int) then (j4131 (decide (t4088 ≥ ((l3605.getD t4086.toNat []).length : Int)))) else none) else none)))))
set_option maxRecDepth 100000 in
theorem future_Futures_Get.calls {K : Nat} {l3605 : List (List S96)} {l3609 : List Int} {a3613 : Int} {g3604 : Nat} {A3606 : Option Addr} {C3607 : Nat} {A3610 : Option Addr} {C3611 : Nat} {x3880 : S96} {x3881 : Bool} {B w : World} {os : List Ass} {rs : List Ro} (H : future_Futures_Get.f K l3605 l3609 a3613 = some (x3880, x3881)) (hS : St B w (Ass.box 91 g3604 [.slice A3606 l3605.length C3607, .slice A3610 l3609.length C3611] :: Ass.deep 94 96 kS96 A3606 C3607 l3605 :: Ass.own 3 (Kd.int .i64) A3610 C3611 l3609 :: os) (rs)) :
    Calls Try.prog 66 [.pointer (some ⟨g3604, 0, none⟩), .int .i32 a3613].toArray w (fun en w' => ∃ v, en = .returned v ∧ v = .tuple #[.agg #[.int .i64 x3880.f0, .int .i64 x3880.f1, .int .i32 x3880.f2, .int .i64 x3880.f3], .bool (x3881)] ∧ St B w' (Ass.box 91 g3604 [.slice A3606 l3605.length C3607, .slice A3610 l3609.length C3611] :: Ass.deep 94 96 kS96 A3606 C3607 l3605 :: Ass.own 3 (Kd.int .i64) A3610 C3611 l3609 :: os) (rs)) := by
  unfold future_Futures_Get.f at H
  refine calls_of_EW (args := [.pointer (some ⟨g3604, 0, none⟩), .int .i32 a3613]) (c := Cd66) 16 Try.func66 (by kernel_rfl) (by kernel_rfl) (by kernel_rfl) ?_
  refine EW.seq (x := Cd66.l) (y := Cd66.r) (by kernel_rfl) ?_
  refine EW.region (id := 0) (ops := Cd66.l.ops) (by kernel_rfl) ?_
  refine EL.of (EO.alloc hS 96 (.agg #[.int .i64 0, .int .i64 0, .int .i32 0, .int .i64 0]) [.int .i64 0, .int .i64 0, .int .i32 0, .int .i64 0] 4 (by kernel_rfl) (by kernel_rfl) (by kernel_rfl) (by kernel_rfl) (by first | rfl | kernel_rfl) ?_)
  intro g3883 w hS
  refine EL.quick 1 [0, 1, 4] [(0, .pointer (some ⟨g3604, 0, none⟩)), (1, .int .i32 a3613), (4, .pointer (some ⟨g3883, 0, none⟩))] (by kernel_rfl) ?_
  refine EL.done (by kernel_rfl) ?_
  refine EQ.code ?_
  refine EW.seq (x := Cd66.r.l) (y := Cd66.r.r) (by kernel_rfl) ?_
  refine EW.region (id := 1) (ops := Cd66.r.l.ops) (by kernel_rfl) ?_
  refine EL.quick 2 [4, 7, 8] [(4, .pointer (some ⟨g3883, 0, none⟩)), (7, .pointer (some ⟨g3604, 0, none⟩)), (8, .int .i32 a3613)] (by kernel_rfl) ?_
  refine EL.inline 64 [.pointer (some ⟨g3604, 0, none⟩), .int .i32 a3613] 9 (by kernel_rfl) (by kernel_rfl) (by kernel_rfl) ?_
  refine calls_of_EW (args := [.pointer (some ⟨g3604, 0, none⟩), .int .i32 a3613]) (c := Cd64) 43 Try.func64 (by kernel_rfl) (by kernel_rfl) (by kernel_rfl) ?_
  refine EW.seq (x := Cd64.l) (y := Cd64.r) (by kernel_rfl) ?_
  refine EW.region (id := 0) (ops := Cd64.l.ops) (by kernel_rfl) ?_
  refine EL.quick 1 [0, 1] [(0, .pointer (some ⟨g3604, 0, none⟩)), (1, .int .i32 a3613)] (by kernel_rfl) ?_
  refine EL.done (by kernel_rfl) ?_
  refine EQ.code ?_
  refine EW.seq (x := Cd64.r.l) (y := Cd64.r.r) (by kernel_rfl) ?_
  refine EW.region (id := 1) (ops := Cd64.r.l.ops) (by kernel_rfl) ?_
  refine EL.quick 1 [0, 1, 7] [(0, .pointer (some ⟨g3604, 0, none⟩)), (1, .int .i32 a3613), (7, .int .i32 a3613)] (by kernel_rfl) ?_
  obtain ⟨t4086, hc4087, H⟩ := b1_out H
  refine EL.of (EO.callD 73 [.int .i32 a3613] _ 8 (by kernel_rfl) (by kernel_rfl) (by kernel_rfl) (ident_Label.calls hc4087 hS) ?_)
  rintro v w ⟨rfl, hS⟩
  refine EL.quick 1 [0, 8, 9] [(0, .pointer (some ⟨g3604, 0, none⟩)), (8, .int .i64 t4086), (9, .int .i32 a3613)] (by kernel_rfl) ?_
  obtain ⟨t4088, hc4089, H⟩ := b1_out H
  refine EL.of (EO.callD 74 [.int .i32 a3613] _ 10 (by kernel_rfl) (by kernel_rfl) (by kernel_rfl) (ident_Number.calls hc4089 hS) ?_)
  rintro v w ⟨rfl, hS⟩
  refine EL.quick 2 [0, 5, 6] [(0, .pointer (some ⟨g3604, 0, none⟩)), (5, .int .i64 t4086), (6, .int .i64 t4088)] (by kernel_rfl) ?_
  refine EL.done (by kernel_rfl) ?_
  refine EQ.code ?_
  refine EW.seq (x := Cd64.r.r.l) (y := Cd64.r.r.r) (by kernel_rfl) ?_
  obtain ⟨j4131, hj4131, H⟩ := lt_out H
  refine EW.cut (x := Cd64.r.r.l.l) (y := Cd64.r.r.l.r) (fun a w => ∃ x4130 : Bool, Sat 43 [(0, .pointer (some ⟨g3604, 0, none⟩)), (5, .int .i64 t4086), (6, .int .i64 t4088), (33, .bool (x4130))] a ∧ St B w (Ass.box 96 g3883 [.int .i64 0, .int .i64 0, .int .i32 0, .int .i64 0] :: Ass.box 91 g3604 [.slice A3606 l3605.length C3607, .slice A3610 l3609.length C3611] :: Ass.deep 94 96 kS96 A3606 C3607 l3605 :: Ass.own 3 (Kd.int .i64) A3610 C3611 l3609 :: os) (rs) ∧ j4131 x4130 = some (x3880, x3881)) (by kernel_rfl) ?_ (fun a w hI => ?_)
  · refine EW.region (id := 2) (ops := Cd64.r.r.l.l.ops) (by kernel_rfl) ?_
    refine EL.quick 3 [0, 5, 6, 13] [(0, .pointer (some ⟨g3604, 0, none⟩)), (5, .int .i64 t4086), (6, .int .i64 t4088), (13, .bool (decide (t4086 < 0)))] (by kernel_rfl) ?_
    by_cases h4132 : t4086 < 0
    · rw [if_pos h4132] at H
      refine EL.keep [0, 5, 6, 13] [(0, .pointer (some ⟨g3604, 0, none⟩)), (5, .int .i64 t4086), (6, .int .i64 t4088), (13, .bool (decide (t4086 < 0)))] (by kernel_rfl) ?_
      refine EL.as' [(0, .pointer (some ⟨g3604, 0, none⟩)), (5, .int .i64 t4086), (6, .int .i64 t4088), (13, .bool (true))] (by simp only [dec_t h4132, Bool.not_true, Bool.not_false]) ?_
      refine EL.quick 20 [0, 5, 6, 33] [(0, .pointer (some ⟨g3604, 0, none⟩)), (5, .int .i64 t4086), (6, .int .i64 t4088), (33, .bool (true))] (by kernel_rfl) ?_
      refine EL.done (by kernel_rfl) ?_
      refine EQ.to ?_
      refine EQ.keep [0, 5, 6, 33] [(0, .pointer (some ⟨g3604, 0, none⟩)), (5, .int .i64 t4086), (6, .int .i64 t4088), (33, .bool (true))] (by kernel_rfl) ?_
      exact fun a ha => ⟨true, ha, (hS.re [3, 3, 3, 3] [] rfl (sub_self)), H⟩
    · rw [if_neg h4132] at H
      refine EL.keep [0, 5, 6, 13] [(0, .pointer (some ⟨g3604, 0, none⟩)), (5, .int .i64 t4086), (6, .int .i64 t4088), (13, .bool (decide (t4086 < 0)))] (by kernel_rfl) ?_
      refine EL.as' [(0, .pointer (some ⟨g3604, 0, none⟩)), (5, .int .i64 t4086), (6, .int .i64 t4088), (13, .bool (false))] (by simp only [dec_f h4132, Bool.not_true, Bool.not_false]) ?_
      refine EL.quick 4 [0, 5, 6, 13, 14, 17] [(0, .pointer (some ⟨g3604, 0, none⟩)), (5, .int .i64 t4086), (6, .int .i64 t4088), (13, .bool (false)), (14, .int .i64 t4086), (17, .pointer (some ⟨g3604, 0, none⟩))] (by kernel_rfl) ?_
      refine EL.of (EO.Y (YO.loadBox hS 1 rfl 89 0 1 (.slice A3606 l3605.length C3607) 18 (by kernel_rfl) (by kernel_rfl) (by kernel_rfl) (by kernel_rfl)) ?_)
      refine EL.quick 4 [0, 5, 6, 22] [(0, .pointer (some ⟨g3604, 0, none⟩)), (5, .int .i64 t4086), (6, .int .i64 t4088), (22, .bool (decide (t4086 ≥ (l3605.length : Int))))] (by kernel_rfl) ?_
      by_cases h4133 : t4086 ≥ (l3605.length : Int)
      · rw [if_pos h4133] at H
        refine EL.keep [0, 5, 6, 22] [(0, .pointer (some ⟨g3604, 0, none⟩)), (5, .int .i64 t4086), (6, .int .i64 t4088), (22, .bool (decide (t4086 ≥ (l3605.length : Int))))] (by kernel_rfl) ?_
        refine EL.as' [(0, .pointer (some ⟨g3604, 0, none⟩)), (5, .int .i64 t4086), (6, .int .i64 t4088), (22, .bool (true))] (by simp only [dec_t h4133, Bool.not_true, Bool.not_false]) ?_
        refine EL.quick 11 [0, 5, 6, 33] [(0, .pointer (some ⟨g3604, 0, none⟩)), (5, .int .i64 t4086), (6, .int .i64 t4088), (33, .bool (true))] (by kernel_rfl) ?_
        refine EL.done (by kernel_rfl) ?_
        refine EQ.to ?_
        refine EQ.keep [0, 5, 6, 33] [(0, .pointer (some ⟨g3604, 0, none⟩)), (5, .int .i64 t4086), (6, .int .i64 t4088), (33, .bool (true))] (by kernel_rfl) ?_
        exact fun a ha => ⟨true, ha, (hS.re [3, 3, 3, 3] [] rfl (sub_self)), H⟩
      · rw [if_neg h4133] at H
        refine EL.keep [0, 5, 6, 22] [(0, .pointer (some ⟨g3604, 0, none⟩)), (5, .int .i64 t4086), (6, .int .i64 t4088), (22, .bool (decide (t4086 ≥ (l3605.length : Int))))] (by kernel_rfl) ?_
        refine EL.as' [(0, .pointer (some ⟨g3604, 0, none⟩)), (5, .int .i64 t4086), (6, .int .i64 t4088), (22, .bool (false))] (by simp only [dec_f h4133, Bool.not_true, Bool.not_false]) ?_
        refine EL.quick 4 [0, 5, 6, 22, 23, 26] [(0, .pointer (some ⟨g3604, 0, none⟩)), (5, .int .i64 t4086), (6, .int .i64 t4088), (22, .bool (false)), (23, .int .i64 t4088), (26, .pointer (some ⟨g3604, 0, none⟩))] (by kernel_rfl) ?_
        refine EL.of (EO.Y (YO.loadBox hS 1 rfl 89 0 1 (.slice A3606 l3605.length C3607) 27 (by kernel_rfl) (by kernel_rfl) (by kernel_rfl) (by kernel_rfl)) ?_)
        refine EL.quick 1 [0, 5, 6, 22, 23, 27, 28] [(0, .pointer (some ⟨g3604, 0, none⟩)), (5, .int .i64 t4086), (6, .int .i64 t4088), (22, .bool (false)), (23, .int .i64 t4088), (27, .slice A3606 l3605.length C3607), (28, .int .i64 t4086)] (by kernel_rfl) ?_
        obtain ⟨h4134, H⟩ := ite_in H
        obtain ⟨h4135, H⟩ := ite_in H
        obtain ⟨ad4136, rfl⟩ := St.deep_some hS 2 rfl h4134 h4135
        refine EL.of (EO.Y (YO.idx 89 1 ad4136 l3605.length C3607 .i64 t4086 29 (by kernel_rfl) (by kernel_rfl) (by kernel_rfl) (by kernel_rfl) h4134 h4135) ?_)
        refine EL.of (EO.openEl hS 2 ad4136 rfl t4086 h4134 h4135 (fun A4137 C4138 => Ass.box 96 g3883 [.int .i64 0, .int .i64 0, .int .i32 0, .int .i64 0] :: Ass.box 91 g3604 [.slice (some ad4136) l3605.length C3607, .slice A3610 l3609.length C3611] :: Ass.holed 94 96 kS96 (some ad4136) C3607 l3605 t4086.toNat (A4137, (l3605.getD t4086.toNat []).length, C4138) :: Ass.own 3 (Kd.int .i64) A3610 C3611 l3609 :: os) 94 30 (by kernel_rfl) (by kernel_rfl) (by kernel_rfl) (by kernel_rfl) (fun _ _ => rfl) ?_)
        intro A4137 C4138 hS
        refine EL.quick 3 [0, 5, 6, 33] [(0, .pointer (some ⟨g3604, 0, none⟩)), (5, .int .i64 t4086), (6, .int .i64 t4088), (33, .bool (decide (t4088 ≥ ((l3605.getD t4086.toNat []).length : Int))))] (by kernel_rfl) ?_
        refine EL.done (by kernel_rfl) ?_
        refine EQ.to ?_
        have hS := St.as (os' := Ass.box 96 g3883 [.int .i64 0, .int .i64 0, .int .i32 0, .int .i64 0] :: Ass.box 91 g3604 [.slice (some ad4136) l3605.length C3607, .slice A3610 l3609.length C3611] :: Ass.deep 94 96 kS96 (some ad4136) C3607 l3605 :: Ass.own 3 (Kd.int .i64) A3610 C3611 l3609 :: os) (St.close hS 0 2 rfl rfl rfl l3605 (set_getD _ _)) rfl
        refine EQ.keep [0, 5, 6, 33] [(0, .pointer (some ⟨g3604, 0, none⟩)), (5, .int .i64 t4086), (6, .int .i64 t4088), (33, .bool (decide (t4088 ≥ ((l3605.getD t4086.toNat []).length : Int))))] (by kernel_rfl) ?_
        exact fun a ha => ⟨decide (t4088 ≥ ((l3605.getD t4086.toNat []).length : Int)), ha, (hS.re [3, 3, 3, 3] [] rfl (sub_self)), H⟩
  · obtain ⟨x4130, ha, hS, H⟩ := hI
    rw [hj4131] at H
    (try dsimp only at H)
    refine EW.at ?_ a ha
    clear ha a
    refine EW.condP' (o := (.tmp 33)) (x := Cd64.r.r.l.r.l) (y := Cd64.r.r.l.r.r) (x4130) (by kernel_rfl) (by kernel_rfl) (fun h4139 => ?_) (fun h4139 => ?_)
    · rw [if_pos h4139] at H
      refine EW.seq (x := Cd64.r.r.l.r.l.l) (y := Cd64.r.r.l.r.l.r) (by kernel_rfl) ?_
      refine EW.region (id := 3) (ops := Cd64.r.r.l.r.l.l.ops) (by kernel_rfl) ?_
      refine EL.quick 1 [4] [(4, .pointer none)] (by kernel_rfl) ?_
      refine EL.done (by kernel_rfl) ?_
      refine EQ.code ?_
      refine EW.ret (by kernel_rfl) ?_
      refine EQ.ret ?_
      refine EQ.leave (.pointer none) (by kernel_rfl) ⟨_, rfl, ?_⟩
      refine EL.quick 1 [4, 6] [(4, .pointer (some ⟨g3883, 0, none⟩)), (6, .pointer none)] (by kernel_rfl) ?_
      refine EL.done (by kernel_rfl) ?_
      refine EQ.code ?_
      refine EW.seq (x := Cd66.r.r.l) (y := Cd66.r.r.r) (by kernel_rfl) ?_
      refine EW.seq (x := Cd66.r.r.l.l) (y := Cd66.r.r.l.r) (by kernel_rfl) ?_
      refine EW.region (id := 2) (ops := Cd66.r.r.l.l.ops) (by kernel_rfl) ?_
      refine EL.quick 2 [4, 6, 11] [(4, .pointer (some ⟨g3883, 0, none⟩)), (6, .pointer none), (11, .bool (true))] (by kernel_rfl) ?_
      refine EL.done (by kernel_rfl) ?_
      refine EQ.code ?_
      refine EW.condT (o := (.tmp 11)) (x := Cd66.r.r.l.r.l) (y := Cd66.r.r.l.r.r) (by kernel_rfl) (by kernel_rfl) ?_
      refine EW.seq (x := Cd66.r.r.l.r.l.l) (y := Cd66.r.r.l.r.l.r) (by kernel_rfl) ?_
      refine EW.region (id := 3) (ops := Cd66.r.r.l.r.l.l.ops) (by kernel_rfl) ?_
      refine EL.quick 1 [4, 12] [(4, .pointer (some ⟨g3883, 0, none⟩)), (12, .agg #[.int .i64 0, .int .i64 0, .int .i32 0, .int .i64 0])] (by kernel_rfl) ?_
      refine EL.of (EO.storeBox (os' := Ass.box 96 g3883 [.int .i64 0, .int .i64 0, .int .i32 0, .int .i64 0] :: Ass.box 91 g3604 [.slice A3606 l3605.length C3607, .slice A3610 l3609.length C3611] :: Ass.deep 94 96 kS96 A3606 C3607 l3605 :: Ass.own 3 (Kd.int .i64) A3610 C3611 l3609 :: os) hS 0 rfl 96 0 (.agg #[.int .i64 0, .int .i64 0, .int .i32 0, .int .i64 0]) [.int .i64 0, .int .i64 0, .int .i32 0, .int .i64 0] (by kernel_rfl) (by kernel_rfl) (by kernel_rfl) (by kernel_rfl) (by kernel_rfl) (by kernel_rfl) rfl rfl ?_)
      intro w hS
      refine EL.quick 1 [4, 5] [(4, .pointer (some ⟨g3883, 0, none⟩)), (5, .bool (false))] (by kernel_rfl) ?_
      refine EL.done (by kernel_rfl) ?_
      refine EQ.code ?_
      refine EW.ret (by kernel_rfl) ?_
      refine EQ.ret ?_
      simp only [Option.some.injEq, Prod.mk.injEq] at H
      obtain ⟨rfl, rfl⟩ := H
      exact EQ.leave2 hS (.cell 4 96) (.tmp 5) (.agg #[.int .i64 0, .int .i64 0, .int .i32 0, .int .i64 0]) (.bool (false)) (by kernel_rfl) ⟨0, 96, g3883, [.int .i64 0, .int .i64 0, .int .i32 0, .int .i64 0], 0, 4, rfl, (by kernel_rfl), (by kernel_rfl)⟩ (oneTmp (by kernel_rfl)) ⟨_, rfl, rfl, (hS.re [3, 3, 3] [3] rfl (sub_self))⟩
    · rw [if_neg h4139] at H
      refine EW.skip (by kernel_rfl) ?_
      refine EQ.code ?_
      refine EW.seq (x := Cd64.r.r.r.l) (y := Cd64.r.r.r.r) (by kernel_rfl) ?_
      refine EW.region (id := 4) (ops := Cd64.r.r.r.l.ops) (by kernel_rfl) ?_
      refine EL.quick 3 [5, 6, 36] [(5, .int .i64 t4086), (6, .int .i64 t4088), (36, .pointer (some ⟨g3604, 0, none⟩))] (by kernel_rfl) ?_
      refine EL.of (EO.Y (YO.loadBox hS 1 rfl 89 0 1 (.slice A3606 l3605.length C3607) 37 (by kernel_rfl) (by kernel_rfl) (by kernel_rfl) (by kernel_rfl)) ?_)
      refine EL.quick 1 [6, 37, 38] [(6, .int .i64 t4088), (37, .slice A3606 l3605.length C3607), (38, .int .i64 t4086)] (by kernel_rfl) ?_
      obtain ⟨h4140, H⟩ := ite_in H
      obtain ⟨h4141, H⟩ := ite_in H
      obtain ⟨ad4142, rfl⟩ := St.deep_some hS 2 rfl h4140 h4141
      refine EL.of (EO.Y (YO.idx 89 1 ad4142 l3605.length C3607 .i64 t4086 39 (by kernel_rfl) (by kernel_rfl) (by kernel_rfl) (by kernel_rfl) h4140 h4141) ?_)
      refine EL.of (EO.openEl hS 2 ad4142 rfl t4086 h4140 h4141 (fun A4143 C4144 => Ass.box 96 g3883 [.int .i64 0, .int .i64 0, .int .i32 0, .int .i64 0] :: Ass.box 91 g3604 [.slice (some ad4142) l3605.length C3607, .slice A3610 l3609.length C3611] :: Ass.holed 94 96 kS96 (some ad4142) C3607 l3605 t4086.toNat (A4143, (l3605.getD t4086.toNat []).length, C4144) :: Ass.own 3 (Kd.int .i64) A3610 C3611 l3609 :: os) 94 40 (by kernel_rfl) (by kernel_rfl) (by kernel_rfl) (by kernel_rfl) (fun _ _ => rfl) ?_)
      intro A4143 C4144 hS
      refine EL.quick 1 [40, 41] [(40, .slice A4143 (l3605.getD t4086.toNat []).length C4144), (41, .int .i64 t4088)] (by kernel_rfl) ?_
      obtain ⟨h4145, H⟩ := ite_in H
      obtain ⟨h4146, H⟩ := ite_in H
      obtain ⟨ad4147, rfl⟩ := St.rd_some hS (Rd.own 0 96 rfl) h4145 h4146
      refine EL.of (EO.Y (YO.idx 94 4 ad4147 (l3605.getD t4086.toNat []).length C4144 .i64 t4088 42 (by kernel_rfl) (by kernel_rfl) (by kernel_rfl) (by kernel_rfl) h4145 h4146) ?_)
      refine EL.quick 1 [4] [(4, .pointer (some ((ad4147.add (t4088.toNat * 4)).add 0)))] (by kernel_rfl) ?_
      refine EL.done (by kernel_rfl) ?_
      refine EQ.code ?_
      refine EW.ret (by kernel_rfl) ?_
      refine EQ.leave (.pointer (some ((ad4147.add (t4088.toNat * 4)).add 0))) (by kernel_rfl) ⟨_, rfl, ?_⟩
      refine EL.quick 1 [4, 6] [(4, .pointer (some ⟨g3883, 0, none⟩)), (6, .pointer (some ((ad4147.add (t4088.toNat * 4)).add 0)))] (by kernel_rfl) ?_
      refine EL.done (by kernel_rfl) ?_
      refine EQ.code ?_
      refine EW.seq (x := Cd66.r.r.l) (y := Cd66.r.r.r) (by kernel_rfl) ?_
      refine EW.seq (x := Cd66.r.r.l.l) (y := Cd66.r.r.l.r) (by kernel_rfl) ?_
      refine EW.region (id := 2) (ops := Cd66.r.r.l.l.ops) (by kernel_rfl) ?_
      refine EL.quick 2 [4, 6, 11] [(4, .pointer (some ⟨g3883, 0, none⟩)), (6, .pointer (some ((ad4147.add (t4088.toNat * 4)).add 0))), (11, .bool (false))] (by kernel_rfl) ?_
      refine EL.done (by kernel_rfl) ?_
      refine EQ.code ?_
      refine EW.condF (o := (.tmp 11)) (x := Cd66.r.r.l.r.l) (y := Cd66.r.r.l.r.r) (by kernel_rfl) (by kernel_rfl) ?_
      refine EW.skip (by kernel_rfl) ?_
      refine EQ.code ?_
      refine EW.seq (x := Cd66.r.r.r.l) (y := Cd66.r.r.r.r) (by kernel_rfl) ?_
      refine EW.region (id := 4) (ops := Cd66.r.r.r.l.ops) (by kernel_rfl) ?_
      refine EL.quick 2 [4, 14] [(4, .pointer (some ⟨g3883, 0, none⟩)), (14, .pointer (some ((ad4147.add (t4088.toNat * 4)).add 0)))] (by kernel_rfl) ?_
      refine EL.of (EO.Y (YO.loadEl hS kS96 ad4147 C4144 (l3605.getD t4086.toNat []) (Rd.own 0 96 rfl) zS96 encS96 encS96_of t4088 h4145 h4146 96 4 0 4 rfl (.agg #[.int .i64 (((l3605.getD t4086.toNat []).getD t4088.toNat zS96).f0), .int .i64 (((l3605.getD t4086.toNat []).getD t4088.toNat zS96).f1), .int .i32 (((l3605.getD t4086.toNat []).getD t4088.toNat zS96).f2), .int .i64 (((l3605.getD t4086.toNat []).getD t4088.toNat zS96).f3)]) 15 (by kernel_rfl) (by kernel_rfl) (by kernel_rfl) (by kernel_rfl)) ?_)
      refine EL.of (EO.storeBox (os' := Ass.own 96 kS96 (some ad4147) C4144 (l3605.getD t4086.toNat []) :: Ass.box 96 g3883 [.int .i64 (((l3605.getD t4086.toNat []).getD t4088.toNat zS96).f0), .int .i64 (((l3605.getD t4086.toNat []).getD t4088.toNat zS96).f1), .int .i32 (((l3605.getD t4086.toNat []).getD t4088.toNat zS96).f2), .int .i64 (((l3605.getD t4086.toNat []).getD t4088.toNat zS96).f3)] :: Ass.box 91 g3604 [.slice (some ad4142) l3605.length C3607, .slice A3610 l3609.length C3611] :: Ass.holed 94 96 kS96 (some ad4142) C3607 l3605 t4086.toNat ((some ad4147), (l3605.getD t4086.toNat []).length, C4144) :: Ass.own 3 (Kd.int .i64) A3610 C3611 l3609 :: os) hS 1 rfl 96 0 (.agg #[.int .i64 (((l3605.getD t4086.toNat []).getD t4088.toNat zS96).f0), .int .i64 (((l3605.getD t4086.toNat []).getD t4088.toNat zS96).f1), .int .i32 (((l3605.getD t4086.toNat []).getD t4088.toNat zS96).f2), .int .i64 (((l3605.getD t4086.toNat []).getD t4088.toNat zS96).f3)]) [.int .i64 (((l3605.getD t4086.toNat []).getD t4088.toNat zS96).f0), .int .i64 (((l3605.getD t4086.toNat []).getD t4088.toNat zS96).f1), .int .i32 (((l3605.getD t4086.toNat []).getD t4088.toNat zS96).f2), .int .i64 (((l3605.getD t4086.toNat []).getD t4088.toNat zS96).f3)] (by kernel_rfl) (by kernel_rfl) (by kernel_rfl) (by kernel_rfl) (by kernel_rfl) (by kernel_rfl) rfl rfl ?_)
      intro w hS
      refine EL.quick 1 [4, 5] [(4, .pointer (some ⟨g3883, 0, none⟩)), (5, .bool (true))] (by kernel_rfl) ?_
      refine EL.done (by kernel_rfl) ?_
      refine EQ.code ?_
      refine EW.ret (by kernel_rfl) ?_
      have hS := St.as (os' := Ass.box 96 g3883 [.int .i64 (((l3605.getD t4086.toNat []).getD t4088.toNat zS96).f0), .int .i64 (((l3605.getD t4086.toNat []).getD t4088.toNat zS96).f1), .int .i32 (((l3605.getD t4086.toNat []).getD t4088.toNat zS96).f2), .int .i64 (((l3605.getD t4086.toNat []).getD t4088.toNat zS96).f3)] :: Ass.box 91 g3604 [.slice (some ad4142) l3605.length C3607, .slice A3610 l3609.length C3611] :: Ass.deep 94 96 kS96 (some ad4142) C3607 l3605 :: Ass.own 3 (Kd.int .i64) A3610 C3611 l3609 :: os) (St.close hS 0 2 rfl rfl rfl l3605 (set_getD _ _)) rfl
      simp only [Option.some.injEq, Prod.mk.injEq] at H
      obtain ⟨rfl, rfl⟩ := H
      exact EQ.leave2 hS (.cell 4 96) (.tmp 5) (.agg #[.int .i64 (((l3605.getD t4086.toNat []).getD t4088.toNat zS96).f0), .int .i64 (((l3605.getD t4086.toNat []).getD t4088.toNat zS96).f1), .int .i32 (((l3605.getD t4086.toNat []).getD t4088.toNat zS96).f2), .int .i64 (((l3605.getD t4086.toNat []).getD t4088.toNat zS96).f3)]) (.bool (true)) (by kernel_rfl) ⟨0, 96, g3883, [.int .i64 (((l3605.getD t4086.toNat []).getD t4088.toNat zS96).f0), .int .i64 (((l3605.getD t4086.toNat []).getD t4088.toNat zS96).f1), .int .i32 (((l3605.getD t4086.toNat []).getD t4088.toNat zS96).f2), .int .i64 (((l3605.getD t4086.toNat []).getD t4088.toNat zS96).f3)], 0, 4, rfl, (by kernel_rfl), (by kernel_rfl)⟩ (oneTmp (by kernel_rfl)) ⟨_, rfl, rfl, (hS.re [3, 3, 3] [3] rfl (sub_self))⟩

/-! ### confidant/park.done: function 45 -/
def park_done.f (K : Nat) (l3594 : List (List S96)) (l3598 : List Int) (a3602 : Int) : Option Bool := b2 (future_Futures_Get.f K l3594 l3598 a3602) fun (t4162 : S96) (t4163 : Bool) => (if t4163 = true then (some (!(decide (t4162.f1 = 0)))) else (some false))
set_option maxRecDepth 100000 in
theorem park_done.calls {K : Nat} {l3594 : List (List S96)} {l3598 : List Int} {a3602 : Int} {g3593 : Nat} {A3595 : Option Addr} {C3596 : Nat} {A3599 : Option Addr} {C3600 : Nat} {x4157 : Bool} {B w : World} {os : List Ass} {rs : List Ro} (H : park_done.f K l3594 l3598 a3602 = some x4157) (hS : St B w (Ass.box 91 g3593 [.slice A3595 l3594.length C3596, .slice A3599 l3598.length C3600] :: Ass.deep 94 96 kS96 A3595 C3596 l3594 :: Ass.own 3 (Kd.int .i64) A3599 C3600 l3598 :: os) (rs)) :
    Calls Try.prog 45 [.pointer (some ⟨g3593, 0, none⟩), .int .i32 a3602].toArray w (fun en w' => ∃ v, en = .returned v ∧ v = .bool (x4157) ∧ St B w' (Ass.box 91 g3593 [.slice A3595 l3594.length C3596, .slice A3599 l3598.length C3600] :: Ass.deep 94 96 kS96 A3595 C3596 l3594 :: Ass.own 3 (Kd.int .i64) A3599 C3600 l3598 :: os) (rs)) := by
  unfold park_done.f at H
  refine calls_of_EW (args := [.pointer (some ⟨g3593, 0, none⟩), .int .i32 a3602]) (c := Cd45) 21 Try.func45 (by kernel_rfl) (by kernel_rfl) (by kernel_rfl) ?_
  refine EW.seq (x := Cd45.l) (y := Cd45.r) (by kernel_rfl) ?_
  refine EW.region (id := 0) (ops := Cd45.l.ops) (by kernel_rfl) ?_
  refine EL.quick 1 [0, 1] [(0, .pointer (some ⟨g3593, 0, none⟩)), (1, .int .i32 a3602)] (by kernel_rfl) ?_
  refine EL.done (by kernel_rfl) ?_
  refine EQ.code ?_
  refine EW.seq (x := Cd45.r.l) (y := Cd45.r.r) (by kernel_rfl) ?_
  refine EW.seq (x := Cd45.r.l.l) (y := Cd45.r.l.r) (by kernel_rfl) ?_
  refine EW.region (id := 1) (ops := Cd45.r.l.l.ops) (by kernel_rfl) ?_
  refine EL.quick 2 [0, 1, 8] [(0, .pointer (some ⟨g3593, 0, none⟩)), (1, .int .i32 a3602), (8, .bool (false))] (by kernel_rfl) ?_
  refine EL.done (by kernel_rfl) ?_
  refine EQ.code ?_
  refine EW.condF (o := (.tmp 8)) (x := Cd45.r.l.r.l) (y := Cd45.r.l.r.r) (by kernel_rfl) (by kernel_rfl) ?_
  refine EW.skip (by kernel_rfl) ?_
  refine EQ.code ?_
  refine EW.seq (x := Cd45.r.r.l) (y := Cd45.r.r.r) (by kernel_rfl) ?_
  refine EW.region (id := 3) (ops := Cd45.r.r.l.ops) (by kernel_rfl) ?_
  refine EL.quick 2 [10, 11] [(10, .pointer (some ⟨g3593, 0, none⟩)), (11, .int .i32 a3602)] (by kernel_rfl) ?_
  obtain ⟨t4162, t4163, hc4164, H⟩ := b2_out H
  refine EL.of (EO.callD 66 [.pointer (some ⟨g3593, 0, none⟩), .int .i32 a3602] _ 12 (by kernel_rfl) (by kernel_rfl) (by kernel_rfl) (future_Futures_Get.calls hc4164 hS) ?_)
  rintro v w ⟨rfl, hS⟩
  refine EL.quick 3 [13, 14] [(13, .agg #[.int .i64 t4162.f0, .int .i64 t4162.f1, .int .i32 t4162.f2, .int .i64 t4162.f3]), (14, .bool (t4163))] (by kernel_rfl) ?_
  refine EL.of (EO.alloc hS 96 (.agg #[.int .i64 0, .int .i64 0, .int .i32 0, .int .i64 0]) [.int .i64 0, .int .i64 0, .int .i32 0, .int .i64 0] 5 (by kernel_rfl) (by kernel_rfl) (by kernel_rfl) (by kernel_rfl) (by first | rfl | kernel_rfl) ?_)
  intro g4165 w hS
  refine EL.of (EO.storeBox (os' := Ass.box 96 g4165 [.int .i64 t4162.f0, .int .i64 t4162.f1, .int .i32 t4162.f2, .int .i64 t4162.f3] :: Ass.box 91 g3593 [.slice A3595 l3594.length C3596, .slice A3599 l3598.length C3600] :: Ass.deep 94 96 kS96 A3595 C3596 l3594 :: Ass.own 3 (Kd.int .i64) A3599 C3600 l3598 :: os) hS 0 rfl 96 0 (.agg #[.int .i64 t4162.f0, .int .i64 t4162.f1, .int .i32 t4162.f2, .int .i64 t4162.f3]) [.int .i64 t4162.f0, .int .i64 t4162.f1, .int .i32 t4162.f2, .int .i64 t4162.f3] (by kernel_rfl) (by kernel_rfl) (by kernel_rfl) (by kernel_rfl) (by kernel_rfl) (by kernel_rfl) rfl rfl ?_)
  intro w hS
  refine EL.quick 1 [5, 6] [(5, .pointer (some ⟨g4165, 0, none⟩)), (6, .bool (t4163))] (by kernel_rfl) ?_
  refine EL.done (by kernel_rfl) ?_
  refine EQ.code ?_
  refine EW.seq (x := Cd45.r.r.r.l) (y := Cd45.r.r.r.r) (by kernel_rfl) ?_
  refine EW.region (id := 4) (ops := Cd45.r.r.r.l.ops) (by kernel_rfl) ?_
  refine EL.quick 2 [5, 16] [(5, .pointer (some ⟨g4165, 0, none⟩)), (16, .bool (t4163))] (by kernel_rfl) ?_
  by_cases h4166 : t4163 = true
  · rw [if_pos h4166] at H
    refine EL.keep [5, 16] [(5, .pointer (some ⟨g4165, 0, none⟩)), (16, .bool (t4163))] (by kernel_rfl) ?_
    refine EL.as' [(5, .pointer (some ⟨g4165, 0, none⟩)), (16, .bool (true))] (by simp only [h4166, Bool.not_true, Bool.not_false]) ?_
    refine EL.quick 1 [16, 17] [(16, .bool (true)), (17, .pointer (some ⟨g4165, 1, none⟩))] (by kernel_rfl) ?_
    refine EL.of (EO.Y (YO.loadBox hS 0 rfl 3 1 1 (.int .i64 t4162.f1) 18 (by kernel_rfl) (by kernel_rfl) (by kernel_rfl) (by kernel_rfl)) ?_)
    refine EL.quick 3 [4] [(4, .bool (!(decide (t4162.f1 = 0))))] (by kernel_rfl) ?_
    refine EL.done (by kernel_rfl) ?_
    refine EQ.code ?_
    refine EW.ret (by kernel_rfl) ?_
    obtain rfl := Option.some.inj H
    exact EQ.leave (.bool (!(decide (t4162.f1 = 0)))) (by kernel_rfl) ⟨_, rfl, rfl, (hS.re [3, 3, 3] [3] rfl (sub_self))⟩
  · rw [if_neg h4166] at H
    refine EL.keep [5, 16] [(5, .pointer (some ⟨g4165, 0, none⟩)), (16, .bool (t4163))] (by kernel_rfl) ?_
    refine EL.as' [(5, .pointer (some ⟨g4165, 0, none⟩)), (16, .bool (false))] (by simp only [(Bool.eq_false_iff.2 h4166), Bool.not_true, Bool.not_false]) ?_
    refine EL.quick 5 [4] [(4, .bool (false))] (by kernel_rfl) ?_
    refine EL.done (by kernel_rfl) ?_
    refine EQ.code ?_
    refine EW.ret (by kernel_rfl) ?_
    obtain rfl := Option.some.inj H
    exact EQ.leave (.bool (false)) (by kernel_rfl) ⟨_, rfl, rfl, (hS.re [3, 3, 3] [3] rfl (sub_self))⟩

/-! ### (*confidant/park.Park).Look: function 16 -/
def park_Park_Look.l0 (K : Nat) (l3541 : List S60) (l3547 : List (List S96)) (l3551 : List Int) (j7606 : (List S60) → (List S36) → (List S36) → Int → Option (List S60 × List S36 × List S36 × Int)) : Nat → (List S60) → (List S36) → (List S36) → Int → Int → Option (List S60 × List S36 × List S36 × Int)
  | 0, _, _, _, _, _ => none
  | n + 1, x7960, x7963, x7967, x7971, x7972 => if x7972 < (l3541.length : Int) then (lt (fun (x8233 : List S60) (x8236 : List S36) (x8239 : List S36) (x8242 : Int) => (park_Park_Look.l0 K l3541 l3547 l3551 j7606 n x8233 x8236 x8239 x8242 (IntKind.i64.wrap (x7972 + 1)))) fun j8243 => (if 0 ≤ x7972 then (if x7971 = 0 then (lt ([(⟨(l3541.getD x7972.toNat zS60).f0.f0, (l3541.getD x7972.toNat zS60).f0.f1, (l3541.getD x7972.toNat zS60).f0.f2, (l3541.getD x7972.toNat zS60).f0.f3, (⟨(l3541.getD x7972.toNat zS60).f0.f4.f0, (l3541.getD x7972.toNat zS60).f0.f4.f1, (l3541.getD x7972.toNat zS60).f0.f4.f2, (l3541.getD x7972.toNat zS60).f0.f4.f3⟩ : S33), (l3541.getD x7972.toNat zS60).f0.f5, (l3541.getD x7972.toNat zS60).f0.f6, (l3541.getD x7972.toNat zS60).f0.f7, (l3541.getD x7972.toNat zS60).f0.f8⟩ : S36)] : List S36) fun l8261 => (if (x7967.length + l8261.length) * 96 ≤ 140737488355328 then (lt (x7967 ++ l8261) fun l8263 => (j8243 x7960 x7963 l8263 x7971)) else none)) else (b1 (park_done.f K l3547 l3551 ((l3541.getD x7972.toNat zS60).f1)) fun (t8268 : Bool) => (if t8268 = true then (lt ([(⟨(l3541.getD x7972.toNat zS60).f0.f0, (l3541.getD x7972.toNat zS60).f0.f1, (l3541.getD x7972.toNat zS60).f0.f2, (l3541.getD x7972.toNat zS60).f0.f3, (⟨(l3541.getD x7972.toNat zS60).f0.f4.f0, (l3541.getD x7972.toNat zS60).f0.f4.f1, (l3541.getD x7972.toNat zS60).f0.f4.f2, (l3541.getD x7972.toNat zS60).f0.f4.f3⟩ : S33), (l3541.getD x7972.toNat zS60).f0.f5, (l3541.getD x7972.toNat zS60).f0.f6, (l3541.getD x7972.toNat zS60).f0.f7, (l3541.getD x7972.toNat zS60).f0.f8⟩ : S36)] : List S36) fun l8272 => (if (x7963.length + l8272.length) * 96 ≤ 140737488355328 then (lt (x7963 ++ l8272) fun l8274 => (j8243 x7960 l8274 x7967 (IntKind.i64.wrap (x7971 - 1)))) else none)) else (lt ([(⟨(⟨(l3541.getD x7972.toNat zS60).f0.f0, (l3541.getD x7972.toNat zS60).f0.f1, (l3541.getD x7972.toNat zS60).f0.f2, (l3541.getD x7972.toNat zS60).f0.f3, (⟨(l3541.getD x7972.toNat zS60).f0.f4.f0, (l3541.getD x7972.toNat zS60).f0.f4.f1, (l3541.getD x7972.toNat zS60).f0.f4.f2, (l3541.getD x7972.toNat zS60).f0.f4.f3⟩ : S33), (l3541.getD x7972.toNat zS60).f0.f5, (l3541.getD x7972.toNat zS60).f0.f6, (l3541.getD x7972.toNat zS60).f0.f7, (l3541.getD x7972.toNat zS60).f0.f8⟩ : S36), (l3541.getD x7972.toNat zS60).f1⟩ : S60)] : List S60) fun l8278 => (if (x7960.length + l8278.length) * 104 ≤ 140737488355328 then (lt (x7960 ++ l8278) fun l8280 => (j8243 l8280 x7963 x7967 (IntKind.i64.wrap (x7971 - 1)))) else none))))) else none)) else (j7606 x7960 x7963 x7967 x7971)
def park_Park_Look.f (K : Nat) (l3541 : List S60) (l3547 : List (List S96)) (l3551 : List Int) (a3555 : Int) : Option (List S60 × List S36 × List S36 × Int) := if (([] : List S60).length + l3541.length) * 104 ≤ 140737488355328 then (lt (([] : List S60) ++ l3541) fun l6220 => (lt ([] : List S60) fun l6223 => (lt (fun (x7592 : List S60) (x7595 : List S36) (x7600 : List S36) (x7605 : Int) => (some (x7592, x7595, x7600, x7605))) fun j7606 => (park_Park_Look.l0 K l3541 l3547 l3551 j7606 K l6223 ([] : List S36) ([] : List S36) (mx a3555 0) 0)))) else none
set_option maxRecDepth 100000 in
theorem park_Park_Look.calls {K : Nat} {l3541 : List S60} {l3547 : List (List S96)} {l3551 : List Int} {a3555 : Int} {g3540 : Nat} {A3542 : Option Addr} {C3543 : Nat} {g3546 : Nat} {A3548 : Option Addr} {C3549 : Nat} {A3552 : Option Addr} {C3553 : Nat} {x6202 : List S60} {x6205 : List S36} {x6208 : List S36} {x6211 : Int} {B w : World} {os : List Ass} {rs : List Ro} (H : park_Park_Look.f K l3541 l3547 l3551 a3555 = some (x6202, x6205, x6208, x6211)) (hS : St B w (Ass.box 93 g3540 [.slice A3542 l3541.length C3543] :: Ass.own 60 kS60 A3542 C3543 l3541 :: Ass.box 91 g3546 [.slice A3548 l3547.length C3549, .slice A3552 l3551.length C3553] :: Ass.deep 94 96 kS96 A3548 C3549 l3547 :: Ass.own 3 (Kd.int .i64) A3552 C3553 l3551 :: os) (rs)) :
    Calls Try.prog 16 [.pointer (some ⟨g3540, 0, none⟩), .pointer (some ⟨g3546, 0, none⟩), .int .i64 a3555].toArray w (fun en w' => ∃ v, en = .returned v ∧ ∃ A6203 : Option Addr, ∃ C6204 : Nat, ∃ A6206 : Option Addr, ∃ C6207 : Nat, ∃ A6209 : Option Addr, ∃ C6210 : Nat, v = .tuple #[.slice A6206 x6205.length C6207, .slice A6209 x6208.length C6210, .int .i64 x6211] ∧ St B w' (Ass.box 93 g3540 [.slice A6203 x6202.length C6204] :: Ass.own 60 kS60 A3542 C3543 l3541 :: Ass.box 91 g3546 [.slice A3548 l3547.length C3549, .slice A3552 l3551.length C3553] :: Ass.deep 94 96 kS96 A3548 C3549 l3547 :: Ass.own 3 (Kd.int .i64) A3552 C3553 l3551 :: Ass.own 60 kS60 A6203 C6204 x6202 :: Ass.own 36 kS36 A6206 C6207 x6205 :: Ass.own 36 kS36 A6209 C6210 x6208 :: os) (rs)) := by
  unfold park_Park_Look.f at H
  refine calls_of_EW (args := [.pointer (some ⟨g3540, 0, none⟩), .pointer (some ⟨g3546, 0, none⟩), .int .i64 a3555]) (c := Cd16) 59 Try.func16 (by kernel_rfl) (by kernel_rfl) (by kernel_rfl) ?_
  refine EW.seq (x := Cd16.l) (y := Cd16.r) (by kernel_rfl) ?_
  refine EW.region (id := 0) (ops := Cd16.l.ops) (by kernel_rfl) ?_
  refine EL.quick 3 [0, 1, 2, 6, 7] [(0, .pointer (some ⟨g3540, 0, none⟩)), (1, .pointer (some ⟨g3546, 0, none⟩)), (2, .int .i64 a3555), (6, .slice none ([] : List S36).length 0), (7, .slice none ([] : List S36).length 0)] (by kernel_rfl) ?_
  refine EL.done (by kernel_rfl) ?_
  refine EQ.code ?_
  refine EW.seq (x := Cd16.r.l) (y := Cd16.r.r) (by kernel_rfl) ?_
  refine EW.region (id := 1) (ops := Cd16.r.l.ops) (by kernel_rfl) ?_
  refine EL.quick 3 [0, 1, 6, 7, 8] [(0, .pointer (some ⟨g3540, 0, none⟩)), (1, .pointer (some ⟨g3546, 0, none⟩)), (6, .slice none ([] : List S36).length 0), (7, .slice none ([] : List S36).length 0), (8, .int .i64 (mx a3555 0))] (by kernel_rfl) ?_
  refine EL.done (by kernel_rfl) ?_
  refine EQ.code ?_
  refine EW.seq (x := Cd16.r.r.l) (y := Cd16.r.r.r) (by kernel_rfl) ?_
  refine EW.region (id := 2) (ops := Cd16.r.r.l.ops) (by kernel_rfl) ?_
  refine EL.quick 3 [0, 1, 6, 7, 8, 16] [(0, .pointer (some ⟨g3540, 0, none⟩)), (1, .pointer (some ⟨g3546, 0, none⟩)), (6, .slice none ([] : List S36).length 0), (7, .slice none ([] : List S36).length 0), (8, .int .i64 (mx a3555 0)), (16, .pointer (some ⟨g3540, 0, none⟩))] (by kernel_rfl) ?_
  refine EL.of (EO.Y (YO.loadBox hS 0 rfl 58 0 1 (.slice A3542 l3541.length C3543) 17 (by kernel_rfl) (by kernel_rfl) (by kernel_rfl) (by kernel_rfl)) ?_)
  have hS := St.nilO hS 60 kS60
  obtain ⟨h6219, H⟩ := ite_in H
  obtain ⟨l6220, hl6220, H⟩ := lt_out H
  refine EL.of (EO.append hS 58 58 60 104 0 kS60 none 0 ([] : List S60) rfl A3542 C3543 l3541 (Rd.own 2 60 rfl) l6220 hl6220 (fun A6221 C6222 => Ass.own 60 kS60 A6221 C6222 l6220 :: Ass.box 93 g3540 [.slice A3542 l3541.length C3543] :: Ass.own 60 kS60 A3542 C3543 l3541 :: Ass.box 91 g3546 [.slice A3548 l3547.length C3549, .slice A3552 l3551.length C3553] :: Ass.deep 94 96 kS96 A3548 C3549 l3547 :: Ass.own 3 (Kd.int .i64) A3552 C3553 l3551 :: os) 18 (by kernel_rfl) (by kernel_rfl) (by kernel_rfl) (by kernel_rfl) h6219 (fun _ _ => rfl) ?_)
  intro A6221 C6222 w hS
  obtain ⟨l6223, hl6223, H⟩ := lt_out H
  refine EL.of (EO.sliceOwn hS kS60 60 A6221 C6222 l6220 0 rfl none (some (.int .i64 0)) none 0 0 C6222 l6223 (by rw [hl6223]; exact (slice_no _)) (fun A6224 C6225 => Ass.own 60 kS60 A6224 C6225 l6223 :: Ass.box 93 g3540 [.slice A3542 l3541.length C3543] :: Ass.own 60 kS60 A3542 C3543 l3541 :: Ass.box 91 g3546 [.slice A3548 l3547.length C3549, .slice A3552 l3551.length C3553] :: Ass.deep 94 96 kS96 A3548 C3549 l3547 :: Ass.own 3 (Kd.int .i64) A3552 C3553 l3551 :: os) 58 19 (by kernel_rfl) (by kernel_rfl) (by kernel_rfl) (by kernel_rfl) (rfl) (rfl) ⟨rfl, fun h => by first | rfl | cases h⟩ (by omega) (by omega) (.inl rfl) (fun _ _ => rfl) ?_)
  intro A6224 C6225 hS
  refine EL.quick 1 [0, 1, 6, 7, 8, 9] [(0, .pointer (some ⟨g3540, 0, none⟩)), (1, .pointer (some ⟨g3546, 0, none⟩)), (6, .slice none ([] : List S36).length 0), (7, .slice none ([] : List S36).length 0), (8, .int .i64 (mx a3555 0)), (9, .slice A6224 l6223.length C6225)] (by kernel_rfl) ?_
  refine EL.done (by kernel_rfl) ?_
  refine EQ.code ?_
  obtain ⟨j7606, hj7606, H⟩ := lt_out H
  refine EW.cut (x := Cd16.r.r.r.l) (y := Cd16.r.r.r.r) (fun a w => ∃ x7592 : List S60, ∃ x7595 : List S36, ∃ x7600 : List S36, ∃ x7605 : Int, ∃ A7593 : Option Addr, ∃ C7594 : Nat, ∃ A7596 : Option Addr, ∃ C7597 : Nat, ∃ A7601 : Option Addr, ∃ C7602 : Nat, Sat 59 [(0, .pointer (some ⟨g3540, 0, none⟩)), (6, .slice A7596 x7595.length C7597), (7, .slice A7601 x7600.length C7602), (8, .int .i64 x7605), (9, .slice A7593 x7592.length C7594)] a ∧ St B w (Ass.own 60 kS60 A7593 C7594 x7592 :: Ass.box 93 g3540 [.slice A3542 l3541.length C3543] :: Ass.own 60 kS60 A3542 C3543 l3541 :: Ass.box 91 g3546 [.slice A3548 l3547.length C3549, .slice A3552 l3551.length C3553] :: Ass.deep 94 96 kS96 A3548 C3549 l3547 :: Ass.own 3 (Kd.int .i64) A3552 C3553 l3551 :: Ass.own 36 kS36 A7596 C7597 x7595 :: Ass.own 36 kS36 A7601 C7602 x7600 :: os) (rs) ∧ j7606 x7592 x7595 x7600 x7605 = some (x6202, x6205, x6208, x6211)) (by kernel_rfl) ?_ (fun a w hI => ?_)
  · refine EW.seq (x := Cd16.r.r.r.l.l) (y := Cd16.r.r.r.l.r) (by kernel_rfl) ?_
    refine EW.region (id := 3) (ops := Cd16.r.r.r.l.l.ops) (by kernel_rfl) ?_
    refine EL.quick 3 [0, 1, 6, 7, 8, 9, 22] [(0, .pointer (some ⟨g3540, 0, none⟩)), (1, .pointer (some ⟨g3546, 0, none⟩)), (6, .slice none ([] : List S36).length 0), (7, .slice none ([] : List S36).length 0), (8, .int .i64 (mx a3555 0)), (9, .slice A6224 l6223.length C6225), (22, .pointer (some ⟨g3540, 0, none⟩))] (by kernel_rfl) ?_
    refine EL.of (EO.Y (YO.loadBox hS 1 rfl 58 0 1 (.slice A3542 l3541.length C3543) 23 (by kernel_rfl) (by kernel_rfl) (by kernel_rfl) (by kernel_rfl)) ?_)
    refine EL.quick 2 [0, 1, 6, 7, 8, 9, 23, 24, 25] [(0, .pointer (some ⟨g3540, 0, none⟩)), (1, .pointer (some ⟨g3546, 0, none⟩)), (6, .slice none ([] : List S36).length 0), (7, .slice none ([] : List S36).length 0), (8, .int .i64 (mx a3555 0)), (9, .slice A6224 l6223.length C6225), (23, .slice A3542 l3541.length C3543), (24, .int .i64 (l3541.length : Int)), (25, .int .i64 0)] (by kernel_rfl) ?_
    refine EL.done (by kernel_rfl) ?_
    refine EQ.code ?_
    refine EW.block (x := Cd16.r.r.r.l.r.l) (id := 0) (by kernel_rfl) ?_
    have hS := St.nilO hS 36 kS36
    have hS := St.nilO hS 36 kS36
    refine EW.loop (x := Cd16.r.r.r.l.r.l.l) (fun n a w => ∃ x7960 : List S60, ∃ x7963 : List S36, ∃ x7967 : List S36, ∃ x7971 : Int, ∃ x7972 : Int, ∃ A7961 : Option Addr, ∃ C7962 : Nat, ∃ A7964 : Option Addr, ∃ C7965 : Nat, ∃ A7968 : Option Addr, ∃ C7969 : Nat, Sat 59 [(0, .pointer (some ⟨g3540, 0, none⟩)), (1, .pointer (some ⟨g3546, 0, none⟩)), (6, .slice A7964 x7963.length C7965), (7, .slice A7968 x7967.length C7969), (8, .int .i64 x7971), (9, .slice A7961 x7960.length C7962), (23, .slice A3542 l3541.length C3543), (24, .int .i64 (l3541.length : Int)), (25, .int .i64 x7972)] a ∧ St B w (Ass.own 60 kS60 A7961 C7962 x7960 :: Ass.box 93 g3540 [.slice A3542 l3541.length C3543] :: Ass.own 60 kS60 A3542 C3543 l3541 :: Ass.box 91 g3546 [.slice A3548 l3547.length C3549, .slice A3552 l3551.length C3553] :: Ass.deep 94 96 kS96 A3548 C3549 l3547 :: Ass.own 3 (Kd.int .i64) A3552 C3553 l3551 :: Ass.own 36 kS36 A7964 C7965 x7963 :: Ass.own 36 kS36 A7968 C7969 x7967 :: os) (rs) ∧ park_Park_Look.l0 K l3541 l3547 l3551 j7606 n x7960 x7963 x7967 x7971 x7972 = some (x6202, x6205, x6208, x6211)) K (by kernel_rfl) ?_ (fun n a w hI => ?_)
    · refine EQ.keep [0, 1, 6, 7, 8, 9, 23, 24, 25] [(0, .pointer (some ⟨g3540, 0, none⟩)), (1, .pointer (some ⟨g3546, 0, none⟩)), (6, .slice none ([] : List S36).length 0), (7, .slice none ([] : List S36).length 0), (8, .int .i64 (mx a3555 0)), (9, .slice A6224 l6223.length C6225), (23, .slice A3542 l3541.length C3543), (24, .int .i64 (l3541.length : Int)), (25, .int .i64 0)] (by kernel_rfl) ?_
      exact fun a ha => ⟨l6223, ([] : List S36), ([] : List S36), mx a3555 0, 0, A6224, C6225, none, 0, none, 0, ha, (hS.re [0, 1, 7, 7, 7, 7, 7, 7] [] rfl (sub_self)), H⟩
    · obtain ⟨x7960, x7963, x7967, x7971, x7972, A7961, C7962, A7964, C7965, A7968, C7969, ha, hS, H⟩ := hI
      obtain _ | n := n
      · simp [park_Park_Look.l0] at H
      rw [park_Park_Look.l0.eq_2] at H
      refine EW.at ?_ a ha
      clear ha a
      refine EW.seq (x := Cd16.r.r.r.l.r.l.l.l) (y := Cd16.r.r.r.l.r.l.l.r) (by kernel_rfl) ?_
      refine EW.region (id := 4) (ops := Cd16.r.r.r.l.r.l.l.l.ops) (by kernel_rfl) ?_
      refine EL.quick 1 [0, 1, 6, 7, 8, 9, 23, 24, 25, 26] [(0, .pointer (some ⟨g3540, 0, none⟩)), (1, .pointer (some ⟨g3546, 0, none⟩)), (6, .slice A7964 x7963.length C7965), (7, .slice A7968 x7967.length C7969), (8, .int .i64 x7971), (9, .slice A7961 x7960.length C7962), (23, .slice A3542 l3541.length C3543), (24, .int .i64 (l3541.length : Int)), (25, .int .i64 x7972), (26, .bool (decide (x7972 < (l3541.length : Int))))] (by kernel_rfl) ?_
      refine EL.done (by kernel_rfl) ?_
      refine EQ.code ?_
      refine EW.seq (x := Cd16.r.r.r.l.r.l.l.r.l) (y := Cd16.r.r.r.l.r.l.l.r.r) (by kernel_rfl) ?_
      refine EW.condP (o := (.tmp 26)) (x := Cd16.r.r.r.l.r.l.l.r.l.l) (y := Cd16.r.r.r.l.r.l.l.r.l.r) (x7972 < (l3541.length : Int)) (by kernel_rfl) (by kernel_rfl) (fun h8141 => ?_) (fun h8141 => ?_)
      · rw [if_pos h8141] at H
        refine EW.skip (by kernel_rfl) ?_
        refine EQ.code ?_
        obtain ⟨j8243, hj8243, H⟩ := lt_out H
        refine EW.cut (x := Cd16.r.r.r.l.r.l.l.r.r.l) (y := Cd16.r.r.r.l.r.l.l.r.r.r) (fun a w => ∃ x8233 : List S60, ∃ x8236 : List S36, ∃ x8239 : List S36, ∃ x8242 : Int, ∃ g8230 : Nat, ∃ A8231 : Option Addr, ∃ C8232 : Nat, ∃ A8234 : Option Addr, ∃ C8235 : Nat, ∃ A8237 : Option Addr, ∃ C8238 : Nat, ∃ A8240 : Option Addr, ∃ C8241 : Nat, Sat 59 [(0, .pointer (some ⟨g3540, 0, none⟩)), (1, .pointer (some ⟨g3546, 0, none⟩)), (6, .slice A8237 x8236.length C8238), (7, .slice A8240 x8239.length C8241), (8, .int .i64 x8242), (9, .slice A8234 x8233.length C8235), (23, .slice A3542 l3541.length C3543), (24, .int .i64 (l3541.length : Int)), (25, .int .i64 x7972)] a ∧ St B w (Ass.box 60 g8230 [.int .i32 ((l3541.getD x7972.toNat zS60).f0.f0), .int .i64 ((l3541.getD x7972.toNat zS60).f0.f1), .int .i64 ((l3541.getD x7972.toNat zS60).f0.f2), .slice A8231 ((l3541.getD x7972.toNat zS60).f0.f3).length C8232, .int .i32 ((l3541.getD x7972.toNat zS60).f0.f4.f0), .int .i32 ((l3541.getD x7972.toNat zS60).f0.f4.f1), .int .i32 ((l3541.getD x7972.toNat zS60).f0.f4.f2), .int .i32 ((l3541.getD x7972.toNat zS60).f0.f4.f3), .int .i64 ((l3541.getD x7972.toNat zS60).f0.f5), .int .i64 ((l3541.getD x7972.toNat zS60).f0.f6), .int .u32 ((l3541.getD x7972.toNat zS60).f0.f7), .int .i64 ((l3541.getD x7972.toNat zS60).f0.f8), .int .i32 ((l3541.getD x7972.toNat zS60).f1)] :: Ass.own 60 kS60 A8234 C8235 x8233 :: Ass.box 93 g3540 [.slice A3542 l3541.length C3543] :: Ass.own 60 kS60 A3542 C3543 l3541 :: Ass.box 91 g3546 [.slice A3548 l3547.length C3549, .slice A3552 l3551.length C3553] :: Ass.deep 94 96 kS96 A3548 C3549 l3547 :: Ass.own 3 (Kd.int .i64) A3552 C3553 l3551 :: Ass.own 36 kS36 A8237 C8238 x8236 :: Ass.own 36 kS36 A8240 C8241 x8239 :: os) (Ro.sl (Kd.int .i32) A8231 C8232 ((l3541.getD x7972.toNat zS60).f0.f3) :: rs) ∧ j8243 x8233 x8236 x8239 x8242 = some (x6202, x6205, x6208, x6211)) (by kernel_rfl) ?_ (fun a w hI => ?_)
        · refine EW.block (x := Cd16.r.r.r.l.r.l.l.r.r.l.l) (id := 1) (by kernel_rfl) ?_
          refine EW.seq (x := Cd16.r.r.r.l.r.l.l.r.r.l.l.l) (y := Cd16.r.r.r.l.r.l.l.r.r.l.l.r) (by kernel_rfl) ?_
          refine EW.region (id := 5) (ops := Cd16.r.r.r.l.r.l.l.r.r.l.l.l.ops) (by kernel_rfl) ?_
          obtain ⟨h8248, H⟩ := ite_in H
          obtain ⟨ad8249, rfl⟩ := St.rd_some hS (Rd.own 2 60 rfl) h8248 h8141
          refine EL.of (EO.Y (YO.idx 58 13 ad8249 l3541.length C3543 .i64 x7972 27 (by kernel_rfl) (by kernel_rfl) (by kernel_rfl) (by kernel_rfl) h8248 h8141) ?_)
          refine EL.of (EO.loadPt hS kS60 ad8249 C3543 l3541 (Rd.own 2 60 rfl) zS60 cellsS60 factsS60 partsS60 x7972 h8248 h8141 60 13 0 13 rfl (fun b8250 => .agg #[.int .i32 ((l3541.getD x7972.toNat zS60).f0.f0), .int .i64 ((l3541.getD x7972.toNat zS60).f0.f1), .int .i64 ((l3541.getD x7972.toNat zS60).f0.f2), .slice b8250.1 ((l3541.getD x7972.toNat zS60).f0.f3).length b8250.2, .int .i32 ((l3541.getD x7972.toNat zS60).f0.f4.f0), .int .i32 ((l3541.getD x7972.toNat zS60).f0.f4.f1), .int .i32 ((l3541.getD x7972.toNat zS60).f0.f4.f2), .int .i32 ((l3541.getD x7972.toNat zS60).f0.f4.f3), .int .i64 ((l3541.getD x7972.toNat zS60).f0.f5), .int .i64 ((l3541.getD x7972.toNat zS60).f0.f6), .int .u32 ((l3541.getD x7972.toNat zS60).f0.f7), .int .i64 ((l3541.getD x7972.toNat zS60).f0.f8), .int .i32 ((l3541.getD x7972.toNat zS60).f1)]) 28 (by kernel_rfl) (by kernel_rfl) (by kernel_rfl) (fun b8250 => (by kernel_rfl)) ?_)
          intro b8250 hS
          refine EL.of (EO.alloc hS 60 (.agg #[.int .i32 0, .int .i64 0, .int .i64 0, .slice none ([] : List Int).length 0, .int .i32 0, .int .i32 0, .int .i32 0, .int .i32 0, .int .i64 0, .int .i64 0, .int .u32 0, .int .i64 0, .int .i32 0]) [.int .i32 0, .int .i64 0, .int .i64 0, .slice none ([] : List Int).length 0, .int .i32 0, .int .i32 0, .int .i32 0, .int .i32 0, .int .i64 0, .int .i64 0, .int .u32 0, .int .i64 0, .int .i32 0] 11 (by kernel_rfl) (by kernel_rfl) (by kernel_rfl) (by kernel_rfl) (by first | rfl | kernel_rfl) ?_)
          intro g8251 w hS
          refine EL.of (EO.storeBox (os' := Ass.box 60 g8251 [.int .i32 ((l3541.getD x7972.toNat zS60).f0.f0), .int .i64 ((l3541.getD x7972.toNat zS60).f0.f1), .int .i64 ((l3541.getD x7972.toNat zS60).f0.f2), .slice b8250.1 ((l3541.getD x7972.toNat zS60).f0.f3).length b8250.2, .int .i32 ((l3541.getD x7972.toNat zS60).f0.f4.f0), .int .i32 ((l3541.getD x7972.toNat zS60).f0.f4.f1), .int .i32 ((l3541.getD x7972.toNat zS60).f0.f4.f2), .int .i32 ((l3541.getD x7972.toNat zS60).f0.f4.f3), .int .i64 ((l3541.getD x7972.toNat zS60).f0.f5), .int .i64 ((l3541.getD x7972.toNat zS60).f0.f6), .int .u32 ((l3541.getD x7972.toNat zS60).f0.f7), .int .i64 ((l3541.getD x7972.toNat zS60).f0.f8), .int .i32 ((l3541.getD x7972.toNat zS60).f1)] :: Ass.own 60 kS60 A7961 C7962 x7960 :: Ass.box 93 g3540 [.slice (some ad8249) l3541.length C3543] :: Ass.own 60 kS60 (some ad8249) C3543 l3541 :: Ass.box 91 g3546 [.slice A3548 l3547.length C3549, .slice A3552 l3551.length C3553] :: Ass.deep 94 96 kS96 A3548 C3549 l3547 :: Ass.own 3 (Kd.int .i64) A3552 C3553 l3551 :: Ass.own 36 kS36 A7964 C7965 x7963 :: Ass.own 36 kS36 A7968 C7969 x7967 :: os) hS 0 rfl 60 0 (.agg #[.int .i32 ((l3541.getD x7972.toNat zS60).f0.f0), .int .i64 ((l3541.getD x7972.toNat zS60).f0.f1), .int .i64 ((l3541.getD x7972.toNat zS60).f0.f2), .slice b8250.1 ((l3541.getD x7972.toNat zS60).f0.f3).length b8250.2, .int .i32 ((l3541.getD x7972.toNat zS60).f0.f4.f0), .int .i32 ((l3541.getD x7972.toNat zS60).f0.f4.f1), .int .i32 ((l3541.getD x7972.toNat zS60).f0.f4.f2), .int .i32 ((l3541.getD x7972.toNat zS60).f0.f4.f3), .int .i64 ((l3541.getD x7972.toNat zS60).f0.f5), .int .i64 ((l3541.getD x7972.toNat zS60).f0.f6), .int .u32 ((l3541.getD x7972.toNat zS60).f0.f7), .int .i64 ((l3541.getD x7972.toNat zS60).f0.f8), .int .i32 ((l3541.getD x7972.toNat zS60).f1)]) [.int .i32 ((l3541.getD x7972.toNat zS60).f0.f0), .int .i64 ((l3541.getD x7972.toNat zS60).f0.f1), .int .i64 ((l3541.getD x7972.toNat zS60).f0.f2), .slice b8250.1 ((l3541.getD x7972.toNat zS60).f0.f3).length b8250.2, .int .i32 ((l3541.getD x7972.toNat zS60).f0.f4.f0), .int .i32 ((l3541.getD x7972.toNat zS60).f0.f4.f1), .int .i32 ((l3541.getD x7972.toNat zS60).f0.f4.f2), .int .i32 ((l3541.getD x7972.toNat zS60).f0.f4.f3), .int .i64 ((l3541.getD x7972.toNat zS60).f0.f5), .int .i64 ((l3541.getD x7972.toNat zS60).f0.f6), .int .u32 ((l3541.getD x7972.toNat zS60).f0.f7), .int .i64 ((l3541.getD x7972.toNat zS60).f0.f8), .int .i32 ((l3541.getD x7972.toNat zS60).f1)] (by kernel_rfl) (by kernel_rfl) (by kernel_rfl) (by kernel_rfl) (by kernel_rfl) (by kernel_rfl) rfl rfl ?_)
          intro w hS
          refine EL.done (by kernel_rfl) ?_
          refine EQ.code ?_
          refine EW.seq (x := Cd16.r.r.r.l.r.l.l.r.r.l.l.r.l) (y := Cd16.r.r.r.l.r.l.l.r.r.l.l.r.r) (by kernel_rfl) ?_
          refine EW.seq (x := Cd16.r.r.r.l.r.l.l.r.r.l.l.r.l.l) (y := Cd16.r.r.r.l.r.l.l.r.r.l.l.r.l.r) (by kernel_rfl) ?_
          refine EW.region (id := 6) (ops := Cd16.r.r.r.l.r.l.l.r.r.l.l.r.l.l.ops) (by kernel_rfl) ?_
          refine EL.quick 2 [0, 1, 6, 7, 8, 9, 11, 23, 24, 25, 30] [(0, .pointer (some ⟨g3540, 0, none⟩)), (1, .pointer (some ⟨g3546, 0, none⟩)), (6, .slice A7964 x7963.length C7965), (7, .slice A7968 x7967.length C7969), (8, .int .i64 x7971), (9, .slice A7961 x7960.length C7962), (11, .pointer (some ⟨g8251, 0, none⟩)), (23, .slice (some ad8249) l3541.length C3543), (24, .int .i64 (l3541.length : Int)), (25, .int .i64 x7972), (30, .bool (decide (x7971 = 0)))] (by kernel_rfl) ?_
          refine EL.done (by kernel_rfl) ?_
          refine EQ.code ?_
          refine EW.condP (o := (.tmp 30)) (x := Cd16.r.r.r.l.r.l.l.r.r.l.l.r.l.r.l) (y := Cd16.r.r.r.l.r.l.l.r.r.l.l.r.l.r.r) (x7971 = 0) (by kernel_rfl) (by kernel_rfl) (fun h8259 => ?_) (fun h8259 => ?_)
          · rw [if_pos h8259] at H
            refine EW.seq (x := Cd16.r.r.r.l.r.l.l.r.r.l.l.r.l.r.l.l) (y := Cd16.r.r.r.l.r.l.l.r.r.l.l.r.l.r.l.r) (by kernel_rfl) ?_
            refine EW.region (id := 7) (ops := Cd16.r.r.r.l.r.l.l.r.r.l.l.r.l.r.l.l.ops) (by kernel_rfl) ?_
            refine EL.quick 2 [0, 1, 6, 8, 9, 23, 24, 25, 31, 32] [(0, .pointer (some ⟨g3540, 0, none⟩)), (1, .pointer (some ⟨g3546, 0, none⟩)), (6, .slice A7964 x7963.length C7965), (8, .int .i64 x7971), (9, .slice A7961 x7960.length C7962), (23, .slice (some ad8249) l3541.length C3543), (24, .int .i64 (l3541.length : Int)), (25, .int .i64 x7972), (31, .slice A7968 x7967.length C7969), (32, .pointer (some ⟨g8251, 0, none⟩))] (by kernel_rfl) ?_
            refine EL.of (EO.Y (YO.loadBox hS 0 rfl 36 0 12 (.agg #[.int .i32 ((l3541.getD x7972.toNat zS60).f0.f0), .int .i64 ((l3541.getD x7972.toNat zS60).f0.f1), .int .i64 ((l3541.getD x7972.toNat zS60).f0.f2), .slice b8250.1 ((l3541.getD x7972.toNat zS60).f0.f3).length b8250.2, .int .i32 ((l3541.getD x7972.toNat zS60).f0.f4.f0), .int .i32 ((l3541.getD x7972.toNat zS60).f0.f4.f1), .int .i32 ((l3541.getD x7972.toNat zS60).f0.f4.f2), .int .i32 ((l3541.getD x7972.toNat zS60).f0.f4.f3), .int .i64 ((l3541.getD x7972.toNat zS60).f0.f5), .int .i64 ((l3541.getD x7972.toNat zS60).f0.f6), .int .u32 ((l3541.getD x7972.toNat zS60).f0.f7), .int .i64 ((l3541.getD x7972.toNat zS60).f0.f8)]) 33 (by kernel_rfl) (by kernel_rfl) (by kernel_rfl) (by kernel_rfl)) ?_)
            obtain ⟨l8261, hl8261, H⟩ := lt_out H
            refine EL.of (EO.lit hS kS36 36 37 1 #[(0, .agg #[.int .i32 ((l3541.getD x7972.toNat zS60).f0.f0), .int .i64 ((l3541.getD x7972.toNat zS60).f0.f1), .int .i64 ((l3541.getD x7972.toNat zS60).f0.f2), .slice b8250.1 ((l3541.getD x7972.toNat zS60).f0.f3).length b8250.2, .int .i32 ((l3541.getD x7972.toNat zS60).f0.f4.f0), .int .i32 ((l3541.getD x7972.toNat zS60).f0.f4.f1), .int .i32 ((l3541.getD x7972.toNat zS60).f0.f4.f2), .int .i32 ((l3541.getD x7972.toNat zS60).f0.f4.f3), .int .i64 ((l3541.getD x7972.toNat zS60).f0.f5), .int .i64 ((l3541.getD x7972.toNat zS60).f0.f6), .int .u32 ((l3541.getD x7972.toNat zS60).f0.f7), .int .i64 ((l3541.getD x7972.toNat zS60).f0.f8)])] [.int .i32 ((l3541.getD x7972.toNat zS60).f0.f0), .int .i64 ((l3541.getD x7972.toNat zS60).f0.f1), .int .i64 ((l3541.getD x7972.toNat zS60).f0.f2), .slice b8250.1 ((l3541.getD x7972.toNat zS60).f0.f3).length b8250.2, .int .i32 ((l3541.getD x7972.toNat zS60).f0.f4.f0), .int .i32 ((l3541.getD x7972.toNat zS60).f0.f4.f1), .int .i32 ((l3541.getD x7972.toNat zS60).f0.f4.f2), .int .i32 ((l3541.getD x7972.toNat zS60).f0.f4.f3), .int .i64 ((l3541.getD x7972.toNat zS60).f0.f5), .int .i64 ((l3541.getD x7972.toNat zS60).f0.f6), .int .u32 ((l3541.getD x7972.toNat zS60).f0.f7), .int .i64 ((l3541.getD x7972.toNat zS60).f0.f8)] l8261 34 (by kernel_rfl) (by kernel_rfl) (by kernel_rfl) (fun _ => (by kernel_rfl)) (by rw [hl8261]; rfl) (by kernel_rfl) (fun w G hr => (by rw [hl8261]; exact ⟨[.int .i32 ((l3541.getD x7972.toNat zS60).f0.f0), .int .i64 ((l3541.getD x7972.toNat zS60).f0.f1), .int .i64 ((l3541.getD x7972.toNat zS60).f0.f2), .slice b8250.1 ((l3541.getD x7972.toNat zS60).f0.f3).length b8250.2, .int .i32 ((l3541.getD x7972.toNat zS60).f0.f4.f0), .int .i32 ((l3541.getD x7972.toNat zS60).f0.f4.f1), .int .i32 ((l3541.getD x7972.toNat zS60).f0.f4.f2), .int .i32 ((l3541.getD x7972.toNat zS60).f0.f4.f3), .int .i64 ((l3541.getD x7972.toNat zS60).f0.f5), .int .i64 ((l3541.getD x7972.toNat zS60).f0.f6), .int .u32 ((l3541.getD x7972.toNat zS60).f0.f7), .int .i64 ((l3541.getD x7972.toNat zS60).f0.f8)], [], rfl, ⟨[.int .i32 ((l3541.getD x7972.toNat zS60).f0.f0)], [.int .i64 ((l3541.getD x7972.toNat zS60).f0.f1), .int .i64 ((l3541.getD x7972.toNat zS60).f0.f2), .slice b8250.1 ((l3541.getD x7972.toNat zS60).f0.f3).length b8250.2, .int .i32 ((l3541.getD x7972.toNat zS60).f0.f4.f0), .int .i32 ((l3541.getD x7972.toNat zS60).f0.f4.f1), .int .i32 ((l3541.getD x7972.toNat zS60).f0.f4.f2), .int .i32 ((l3541.getD x7972.toNat zS60).f0.f4.f3), .int .i64 ((l3541.getD x7972.toNat zS60).f0.f5), .int .i64 ((l3541.getD x7972.toNat zS60).f0.f6), .int .u32 ((l3541.getD x7972.toNat zS60).f0.f7), .int .i64 ((l3541.getD x7972.toNat zS60).f0.f8)], rfl, rfl, ⟨[.int .i64 ((l3541.getD x7972.toNat zS60).f0.f1)], [.int .i64 ((l3541.getD x7972.toNat zS60).f0.f2), .slice b8250.1 ((l3541.getD x7972.toNat zS60).f0.f3).length b8250.2, .int .i32 ((l3541.getD x7972.toNat zS60).f0.f4.f0), .int .i32 ((l3541.getD x7972.toNat zS60).f0.f4.f1), .int .i32 ((l3541.getD x7972.toNat zS60).f0.f4.f2), .int .i32 ((l3541.getD x7972.toNat zS60).f0.f4.f3), .int .i64 ((l3541.getD x7972.toNat zS60).f0.f5), .int .i64 ((l3541.getD x7972.toNat zS60).f0.f6), .int .u32 ((l3541.getD x7972.toNat zS60).f0.f7), .int .i64 ((l3541.getD x7972.toNat zS60).f0.f8)], rfl, rfl, ⟨[.int .i64 ((l3541.getD x7972.toNat zS60).f0.f2)], [.slice b8250.1 ((l3541.getD x7972.toNat zS60).f0.f3).length b8250.2, .int .i32 ((l3541.getD x7972.toNat zS60).f0.f4.f0), .int .i32 ((l3541.getD x7972.toNat zS60).f0.f4.f1), .int .i32 ((l3541.getD x7972.toNat zS60).f0.f4.f2), .int .i32 ((l3541.getD x7972.toNat zS60).f0.f4.f3), .int .i64 ((l3541.getD x7972.toNat zS60).f0.f5), .int .i64 ((l3541.getD x7972.toNat zS60).f0.f6), .int .u32 ((l3541.getD x7972.toNat zS60).f0.f7), .int .i64 ((l3541.getD x7972.toNat zS60).f0.f8)], rfl, rfl, ⟨[.slice b8250.1 ((l3541.getD x7972.toNat zS60).f0.f3).length b8250.2], [.int .i32 ((l3541.getD x7972.toNat zS60).f0.f4.f0), .int .i32 ((l3541.getD x7972.toNat zS60).f0.f4.f1), .int .i32 ((l3541.getD x7972.toNat zS60).f0.f4.f2), .int .i32 ((l3541.getD x7972.toNat zS60).f0.f4.f3), .int .i64 ((l3541.getD x7972.toNat zS60).f0.f5), .int .i64 ((l3541.getD x7972.toNat zS60).f0.f6), .int .u32 ((l3541.getD x7972.toNat zS60).f0.f7), .int .i64 ((l3541.getD x7972.toNat zS60).f0.f8)], rfl, (hr _ (List.mem_of_getElem? (i := 0) rfl)), ⟨[.int .i32 ((l3541.getD x7972.toNat zS60).f0.f4.f0), .int .i32 ((l3541.getD x7972.toNat zS60).f0.f4.f1), .int .i32 ((l3541.getD x7972.toNat zS60).f0.f4.f2), .int .i32 ((l3541.getD x7972.toNat zS60).f0.f4.f3)], [.int .i64 ((l3541.getD x7972.toNat zS60).f0.f5), .int .i64 ((l3541.getD x7972.toNat zS60).f0.f6), .int .u32 ((l3541.getD x7972.toNat zS60).f0.f7), .int .i64 ((l3541.getD x7972.toNat zS60).f0.f8)], rfl, ⟨[.int .i32 ((l3541.getD x7972.toNat zS60).f0.f4.f0)], [.int .i32 ((l3541.getD x7972.toNat zS60).f0.f4.f1), .int .i32 ((l3541.getD x7972.toNat zS60).f0.f4.f2), .int .i32 ((l3541.getD x7972.toNat zS60).f0.f4.f3)], rfl, rfl, ⟨[.int .i32 ((l3541.getD x7972.toNat zS60).f0.f4.f1)], [.int .i32 ((l3541.getD x7972.toNat zS60).f0.f4.f2), .int .i32 ((l3541.getD x7972.toNat zS60).f0.f4.f3)], rfl, rfl, ⟨[.int .i32 ((l3541.getD x7972.toNat zS60).f0.f4.f2)], [.int .i32 ((l3541.getD x7972.toNat zS60).f0.f4.f3)], rfl, rfl, ⟨[.int .i32 ((l3541.getD x7972.toNat zS60).f0.f4.f3)], [], rfl, rfl, rfl⟩⟩⟩⟩, ⟨[.int .i64 ((l3541.getD x7972.toNat zS60).f0.f5)], [.int .i64 ((l3541.getD x7972.toNat zS60).f0.f6), .int .u32 ((l3541.getD x7972.toNat zS60).f0.f7), .int .i64 ((l3541.getD x7972.toNat zS60).f0.f8)], rfl, rfl, ⟨[.int .i64 ((l3541.getD x7972.toNat zS60).f0.f6)], [.int .u32 ((l3541.getD x7972.toNat zS60).f0.f7), .int .i64 ((l3541.getD x7972.toNat zS60).f0.f8)], rfl, rfl, ⟨[.int .u32 ((l3541.getD x7972.toNat zS60).f0.f7)], [.int .i64 ((l3541.getD x7972.toNat zS60).f0.f8)], rfl, rfl, ⟨[.int .i64 ((l3541.getD x7972.toNat zS60).f0.f8)], [], rfl, rfl, rfl⟩⟩⟩⟩⟩⟩⟩⟩⟩, rfl⟩)) ?_)
            intro g8260 w hS
            obtain ⟨h8262, H⟩ := ite_in H
            obtain ⟨l8263, hl8263, H⟩ := lt_out H
            refine EL.of (EO.append hS 37 37 36 96 9 kS36 A7968 C7969 x7967 rfl (some ⟨g8260, 0, none⟩) 1 l8261 (Rd.own 0 36 rfl) l8263 hl8263 (fun A8264 C8265 => Ass.own 36 kS36 (some ⟨g8260, 0, none⟩) 1 l8261 :: Ass.box 60 g8251 [.int .i32 ((l3541.getD x7972.toNat zS60).f0.f0), .int .i64 ((l3541.getD x7972.toNat zS60).f0.f1), .int .i64 ((l3541.getD x7972.toNat zS60).f0.f2), .slice b8250.1 ((l3541.getD x7972.toNat zS60).f0.f3).length b8250.2, .int .i32 ((l3541.getD x7972.toNat zS60).f0.f4.f0), .int .i32 ((l3541.getD x7972.toNat zS60).f0.f4.f1), .int .i32 ((l3541.getD x7972.toNat zS60).f0.f4.f2), .int .i32 ((l3541.getD x7972.toNat zS60).f0.f4.f3), .int .i64 ((l3541.getD x7972.toNat zS60).f0.f5), .int .i64 ((l3541.getD x7972.toNat zS60).f0.f6), .int .u32 ((l3541.getD x7972.toNat zS60).f0.f7), .int .i64 ((l3541.getD x7972.toNat zS60).f0.f8), .int .i32 ((l3541.getD x7972.toNat zS60).f1)] :: Ass.own 60 kS60 A7961 C7962 x7960 :: Ass.box 93 g3540 [.slice (some ad8249) l3541.length C3543] :: Ass.own 60 kS60 (some ad8249) C3543 l3541 :: Ass.box 91 g3546 [.slice A3548 l3547.length C3549, .slice A3552 l3551.length C3553] :: Ass.deep 94 96 kS96 A3548 C3549 l3547 :: Ass.own 3 (Kd.int .i64) A3552 C3553 l3551 :: Ass.own 36 kS36 A7964 C7965 x7963 :: Ass.own 36 kS36 A8264 C8265 l8263 :: os) 35 (by kernel_rfl) (by kernel_rfl) (by kernel_rfl) (by kernel_rfl) h8262 (fun _ _ => rfl) ?_)
            intro A8264 C8265 w hS
            refine EL.quick 1 [0, 1, 6, 7, 8, 9, 23, 24, 25] [(0, .pointer (some ⟨g3540, 0, none⟩)), (1, .pointer (some ⟨g3546, 0, none⟩)), (6, .slice A7964 x7963.length C7965), (7, .slice A8264 l8263.length C8265), (8, .int .i64 x7971), (9, .slice A7961 x7960.length C7962), (23, .slice (some ad8249) l3541.length C3543), (24, .int .i64 (l3541.length : Int)), (25, .int .i64 x7972)] (by kernel_rfl) ?_
            refine EL.done (by kernel_rfl) ?_
            refine EQ.code ?_
            refine EW.exit (id := 1) (by kernel_rfl) ?_
            refine EQ.exitCode ?_
            refine EQ.exitHere ?_
            refine EQ.to ?_
            refine EQ.keep [0, 1, 6, 7, 8, 9, 23, 24, 25] [(0, .pointer (some ⟨g3540, 0, none⟩)), (1, .pointer (some ⟨g3546, 0, none⟩)), (6, .slice A7964 x7963.length C7965), (7, .slice A8264 l8263.length C8265), (8, .int .i64 x7971), (9, .slice A7961 x7960.length C7962), (23, .slice (some ad8249) l3541.length C3543), (24, .int .i64 (l3541.length : Int)), (25, .int .i64 x7972)] (by kernel_rfl) ?_
            exact fun a ha => ⟨x7960, x7963, l8263, x7971, g8251, b8250.1, b8250.2, A7961, C7962, A7964, C7965, A8264, C8265, ha, (hS.re [9, 9, 9, 9, 9, 9, 9, 9, 9] [9] rfl (sub_cons 0 rfl (sub_tail (sub_self)))), H⟩
          · rw [if_neg h8259] at H
            refine EW.skip (by kernel_rfl) ?_
            refine EQ.code ?_
            refine EW.seq (x := Cd16.r.r.r.l.r.l.l.r.r.l.l.r.r.l) (y := Cd16.r.r.r.l.r.l.l.r.r.l.l.r.r.r) (by kernel_rfl) ?_
            refine EW.region (id := 8) (ops := Cd16.r.r.r.l.r.l.l.r.r.l.l.r.r.l.ops) (by kernel_rfl) ?_
            refine EL.quick 3 [0, 1, 6, 7, 8, 9, 11, 23, 24, 25] [(0, .pointer (some ⟨g3540, 0, none⟩)), (1, .pointer (some ⟨g3546, 0, none⟩)), (6, .slice A7964 x7963.length C7965), (7, .slice A7968 x7967.length C7969), (8, .int .i64 (IntKind.i64.wrap (x7971 - 1))), (9, .slice A7961 x7960.length C7962), (11, .pointer (some ⟨g8251, 0, none⟩)), (23, .slice (some ad8249) l3541.length C3543), (24, .int .i64 (l3541.length : Int)), (25, .int .i64 x7972)] (by kernel_rfl) ?_
            refine EL.done (by kernel_rfl) ?_
            refine EQ.code ?_
            refine EW.seq (x := Cd16.r.r.r.l.r.l.l.r.r.l.l.r.r.r.l) (y := Cd16.r.r.r.l.r.l.l.r.r.l.l.r.r.r.r) (by kernel_rfl) ?_
            refine EW.region (id := 9) (ops := Cd16.r.r.r.l.r.l.l.r.r.l.l.r.r.r.l.ops) (by kernel_rfl) ?_
            refine EL.quick 2 [0, 1, 6, 7, 8, 9, 11, 23, 24, 25, 38, 39] [(0, .pointer (some ⟨g3540, 0, none⟩)), (1, .pointer (some ⟨g3546, 0, none⟩)), (6, .slice A7964 x7963.length C7965), (7, .slice A7968 x7967.length C7969), (8, .int .i64 (IntKind.i64.wrap (x7971 - 1))), (9, .slice A7961 x7960.length C7962), (11, .pointer (some ⟨g8251, 0, none⟩)), (23, .slice (some ad8249) l3541.length C3543), (24, .int .i64 (l3541.length : Int)), (25, .int .i64 x7972), (38, .pointer (some ⟨g3546, 0, none⟩)), (39, .pointer (some ⟨g8251, 12, none⟩))] (by kernel_rfl) ?_
            refine EL.of (EO.Y (YO.loadBox hS 0 rfl 21 12 1 (.int .i32 ((l3541.getD x7972.toNat zS60).f1)) 40 (by kernel_rfl) (by kernel_rfl) (by kernel_rfl) (by kernel_rfl)) ?_)
            have hS : St B _ (Ass.box 91 g3546 [.slice A3548 l3547.length C3549, .slice A3552 l3551.length C3553] :: Ass.deep 94 96 kS96 A3548 C3549 l3547 :: Ass.own 3 (Kd.int .i64) A3552 C3553 l3551 :: Ass.box 60 g8251 [.int .i32 ((l3541.getD x7972.toNat zS60).f0.f0), .int .i64 ((l3541.getD x7972.toNat zS60).f0.f1), .int .i64 ((l3541.getD x7972.toNat zS60).f0.f2), .slice b8250.1 ((l3541.getD x7972.toNat zS60).f0.f3).length b8250.2, .int .i32 ((l3541.getD x7972.toNat zS60).f0.f4.f0), .int .i32 ((l3541.getD x7972.toNat zS60).f0.f4.f1), .int .i32 ((l3541.getD x7972.toNat zS60).f0.f4.f2), .int .i32 ((l3541.getD x7972.toNat zS60).f0.f4.f3), .int .i64 ((l3541.getD x7972.toNat zS60).f0.f5), .int .i64 ((l3541.getD x7972.toNat zS60).f0.f6), .int .u32 ((l3541.getD x7972.toNat zS60).f0.f7), .int .i64 ((l3541.getD x7972.toNat zS60).f0.f8), .int .i32 ((l3541.getD x7972.toNat zS60).f1)] :: Ass.own 60 kS60 A7961 C7962 x7960 :: Ass.box 93 g3540 [.slice (some ad8249) l3541.length C3543] :: Ass.own 60 kS60 (some ad8249) C3543 l3541 :: Ass.own 36 kS36 A7964 C7965 x7963 :: Ass.own 36 kS36 A7968 C7969 x7967 :: os) (Ro.sl (Kd.int .i32) b8250.1 b8250.2 ((l3541.getD x7972.toNat zS60).f0.f3) :: rs) := hS.re [6, 6, 6] [] rfl sub_self
            obtain ⟨t8268, hc8269, H⟩ := b1_out H
            refine EL.of (EO.callD 45 [.pointer (some ⟨g3546, 0, none⟩), .int .i32 ((l3541.getD x7972.toNat zS60).f1)] _ 41 (by kernel_rfl) (by kernel_rfl) (by kernel_rfl) (park_done.calls hc8269 hS) ?_)
            rintro v w ⟨rfl, hS⟩
            refine EL.done (by kernel_rfl) ?_
            refine EQ.code ?_
            refine EW.condP' (o := (.tmp 41)) (x := Cd16.r.r.r.l.r.l.l.r.r.l.l.r.r.r.r.l) (y := Cd16.r.r.r.l.r.l.l.r.r.l.l.r.r.r.r.r) (t8268) (by kernel_rfl) (by kernel_rfl) (fun h8270 => ?_) (fun h8270 => ?_)
            · rw [if_pos h8270] at H
              refine EW.region (id := 10) (ops := Cd16.r.r.r.l.r.l.l.r.r.l.l.r.r.r.r.l.ops) (by kernel_rfl) ?_
              refine EL.quick 2 [0, 1, 7, 8, 9, 23, 24, 25, 42, 43] [(0, .pointer (some ⟨g3540, 0, none⟩)), (1, .pointer (some ⟨g3546, 0, none⟩)), (7, .slice A7968 x7967.length C7969), (8, .int .i64 (IntKind.i64.wrap (x7971 - 1))), (9, .slice A7961 x7960.length C7962), (23, .slice (some ad8249) l3541.length C3543), (24, .int .i64 (l3541.length : Int)), (25, .int .i64 x7972), (42, .slice A7964 x7963.length C7965), (43, .pointer (some ⟨g8251, 0, none⟩))] (by kernel_rfl) ?_
              refine EL.of (EO.Y (YO.loadBox hS 3 rfl 36 0 12 (.agg #[.int .i32 ((l3541.getD x7972.toNat zS60).f0.f0), .int .i64 ((l3541.getD x7972.toNat zS60).f0.f1), .int .i64 ((l3541.getD x7972.toNat zS60).f0.f2), .slice b8250.1 ((l3541.getD x7972.toNat zS60).f0.f3).length b8250.2, .int .i32 ((l3541.getD x7972.toNat zS60).f0.f4.f0), .int .i32 ((l3541.getD x7972.toNat zS60).f0.f4.f1), .int .i32 ((l3541.getD x7972.toNat zS60).f0.f4.f2), .int .i32 ((l3541.getD x7972.toNat zS60).f0.f4.f3), .int .i64 ((l3541.getD x7972.toNat zS60).f0.f5), .int .i64 ((l3541.getD x7972.toNat zS60).f0.f6), .int .u32 ((l3541.getD x7972.toNat zS60).f0.f7), .int .i64 ((l3541.getD x7972.toNat zS60).f0.f8)]) 44 (by kernel_rfl) (by kernel_rfl) (by kernel_rfl) (by kernel_rfl)) ?_)
              obtain ⟨l8272, hl8272, H⟩ := lt_out H
              refine EL.of (EO.lit hS kS36 36 37 1 #[(0, .agg #[.int .i32 ((l3541.getD x7972.toNat zS60).f0.f0), .int .i64 ((l3541.getD x7972.toNat zS60).f0.f1), .int .i64 ((l3541.getD x7972.toNat zS60).f0.f2), .slice b8250.1 ((l3541.getD x7972.toNat zS60).f0.f3).length b8250.2, .int .i32 ((l3541.getD x7972.toNat zS60).f0.f4.f0), .int .i32 ((l3541.getD x7972.toNat zS60).f0.f4.f1), .int .i32 ((l3541.getD x7972.toNat zS60).f0.f4.f2), .int .i32 ((l3541.getD x7972.toNat zS60).f0.f4.f3), .int .i64 ((l3541.getD x7972.toNat zS60).f0.f5), .int .i64 ((l3541.getD x7972.toNat zS60).f0.f6), .int .u32 ((l3541.getD x7972.toNat zS60).f0.f7), .int .i64 ((l3541.getD x7972.toNat zS60).f0.f8)])] [.int .i32 ((l3541.getD x7972.toNat zS60).f0.f0), .int .i64 ((l3541.getD x7972.toNat zS60).f0.f1), .int .i64 ((l3541.getD x7972.toNat zS60).f0.f2), .slice b8250.1 ((l3541.getD x7972.toNat zS60).f0.f3).length b8250.2, .int .i32 ((l3541.getD x7972.toNat zS60).f0.f4.f0), .int .i32 ((l3541.getD x7972.toNat zS60).f0.f4.f1), .int .i32 ((l3541.getD x7972.toNat zS60).f0.f4.f2), .int .i32 ((l3541.getD x7972.toNat zS60).f0.f4.f3), .int .i64 ((l3541.getD x7972.toNat zS60).f0.f5), .int .i64 ((l3541.getD x7972.toNat zS60).f0.f6), .int .u32 ((l3541.getD x7972.toNat zS60).f0.f7), .int .i64 ((l3541.getD x7972.toNat zS60).f0.f8)] l8272 45 (by kernel_rfl) (by kernel_rfl) (by kernel_rfl) (fun _ => (by kernel_rfl)) (by rw [hl8272]; rfl) (by kernel_rfl) (fun w G hr => (by rw [hl8272]; exact ⟨[.int .i32 ((l3541.getD x7972.toNat zS60).f0.f0), .int .i64 ((l3541.getD x7972.toNat zS60).f0.f1), .int .i64 ((l3541.getD x7972.toNat zS60).f0.f2), .slice b8250.1 ((l3541.getD x7972.toNat zS60).f0.f3).length b8250.2, .int .i32 ((l3541.getD x7972.toNat zS60).f0.f4.f0), .int .i32 ((l3541.getD x7972.toNat zS60).f0.f4.f1), .int .i32 ((l3541.getD x7972.toNat zS60).f0.f4.f2), .int .i32 ((l3541.getD x7972.toNat zS60).f0.f4.f3), .int .i64 ((l3541.getD x7972.toNat zS60).f0.f5), .int .i64 ((l3541.getD x7972.toNat zS60).f0.f6), .int .u32 ((l3541.getD x7972.toNat zS60).f0.f7), .int .i64 ((l3541.getD x7972.toNat zS60).f0.f8)], [], rfl, ⟨[.int .i32 ((l3541.getD x7972.toNat zS60).f0.f0)], [.int .i64 ((l3541.getD x7972.toNat zS60).f0.f1), .int .i64 ((l3541.getD x7972.toNat zS60).f0.f2), .slice b8250.1 ((l3541.getD x7972.toNat zS60).f0.f3).length b8250.2, .int .i32 ((l3541.getD x7972.toNat zS60).f0.f4.f0), .int .i32 ((l3541.getD x7972.toNat zS60).f0.f4.f1), .int .i32 ((l3541.getD x7972.toNat zS60).f0.f4.f2), .int .i32 ((l3541.getD x7972.toNat zS60).f0.f4.f3), .int .i64 ((l3541.getD x7972.toNat zS60).f0.f5), .int .i64 ((l3541.getD x7972.toNat zS60).f0.f6), .int .u32 ((l3541.getD x7972.toNat zS60).f0.f7), .int .i64 ((l3541.getD x7972.toNat zS60).f0.f8)], rfl, rfl, ⟨[.int .i64 ((l3541.getD x7972.toNat zS60).f0.f1)], [.int .i64 ((l3541.getD x7972.toNat zS60).f0.f2), .slice b8250.1 ((l3541.getD x7972.toNat zS60).f0.f3).length b8250.2, .int .i32 ((l3541.getD x7972.toNat zS60).f0.f4.f0), .int .i32 ((l3541.getD x7972.toNat zS60).f0.f4.f1), .int .i32 ((l3541.getD x7972.toNat zS60).f0.f4.f2), .int .i32 ((l3541.getD x7972.toNat zS60).f0.f4.f3), .int .i64 ((l3541.getD x7972.toNat zS60).f0.f5), .int .i64 ((l3541.getD x7972.toNat zS60).f0.f6), .int .u32 ((l3541.getD x7972.toNat zS60).f0.f7), .int .i64 ((l3541.getD x7972.toNat zS60).f0.f8)], rfl, rfl, ⟨[.int .i64 ((l3541.getD x7972.toNat zS60).f0.f2)], [.slice b8250.1 ((l3541.getD x7972.toNat zS60).f0.f3).length b8250.2, .int .i32 ((l3541.getD x7972.toNat zS60).f0.f4.f0), .int .i32 ((l3541.getD x7972.toNat zS60).f0.f4.f1), .int .i32 ((l3541.getD x7972.toNat zS60).f0.f4.f2), .int .i32 ((l3541.getD x7972.toNat zS60).f0.f4.f3), .int .i64 ((l3541.getD x7972.toNat zS60).f0.f5), .int .i64 ((l3541.getD x7972.toNat zS60).f0.f6), .int .u32 ((l3541.getD x7972.toNat zS60).f0.f7), .int .i64 ((l3541.getD x7972.toNat zS60).f0.f8)], rfl, rfl, ⟨[.slice b8250.1 ((l3541.getD x7972.toNat zS60).f0.f3).length b8250.2], [.int .i32 ((l3541.getD x7972.toNat zS60).f0.f4.f0), .int .i32 ((l3541.getD x7972.toNat zS60).f0.f4.f1), .int .i32 ((l3541.getD x7972.toNat zS60).f0.f4.f2), .int .i32 ((l3541.getD x7972.toNat zS60).f0.f4.f3), .int .i64 ((l3541.getD x7972.toNat zS60).f0.f5), .int .i64 ((l3541.getD x7972.toNat zS60).f0.f6), .int .u32 ((l3541.getD x7972.toNat zS60).f0.f7), .int .i64 ((l3541.getD x7972.toNat zS60).f0.f8)], rfl, (hr _ (List.mem_of_getElem? (i := 0) rfl)), ⟨[.int .i32 ((l3541.getD x7972.toNat zS60).f0.f4.f0), .int .i32 ((l3541.getD x7972.toNat zS60).f0.f4.f1), .int .i32 ((l3541.getD x7972.toNat zS60).f0.f4.f2), .int .i32 ((l3541.getD x7972.toNat zS60).f0.f4.f3)], [.int .i64 ((l3541.getD x7972.toNat zS60).f0.f5), .int .i64 ((l3541.getD x7972.toNat zS60).f0.f6), .int .u32 ((l3541.getD x7972.toNat zS60).f0.f7), .int .i64 ((l3541.getD x7972.toNat zS60).f0.f8)], rfl, ⟨[.int .i32 ((l3541.getD x7972.toNat zS60).f0.f4.f0)], [.int .i32 ((l3541.getD x7972.toNat zS60).f0.f4.f1), .int .i32 ((l3541.getD x7972.toNat zS60).f0.f4.f2), .int .i32 ((l3541.getD x7972.toNat zS60).f0.f4.f3)], rfl, rfl, ⟨[.int .i32 ((l3541.getD x7972.toNat zS60).f0.f4.f1)], [.int .i32 ((l3541.getD x7972.toNat zS60).f0.f4.f2), .int .i32 ((l3541.getD x7972.toNat zS60).f0.f4.f3)], rfl, rfl, ⟨[.int .i32 ((l3541.getD x7972.toNat zS60).f0.f4.f2)], [.int .i32 ((l3541.getD x7972.toNat zS60).f0.f4.f3)], rfl, rfl, ⟨[.int .i32 ((l3541.getD x7972.toNat zS60).f0.f4.f3)], [], rfl, rfl, rfl⟩⟩⟩⟩, ⟨[.int .i64 ((l3541.getD x7972.toNat zS60).f0.f5)], [.int .i64 ((l3541.getD x7972.toNat zS60).f0.f6), .int .u32 ((l3541.getD x7972.toNat zS60).f0.f7), .int .i64 ((l3541.getD x7972.toNat zS60).f0.f8)], rfl, rfl, ⟨[.int .i64 ((l3541.getD x7972.toNat zS60).f0.f6)], [.int .u32 ((l3541.getD x7972.toNat zS60).f0.f7), .int .i64 ((l3541.getD x7972.toNat zS60).f0.f8)], rfl, rfl, ⟨[.int .u32 ((l3541.getD x7972.toNat zS60).f0.f7)], [.int .i64 ((l3541.getD x7972.toNat zS60).f0.f8)], rfl, rfl, ⟨[.int .i64 ((l3541.getD x7972.toNat zS60).f0.f8)], [], rfl, rfl, rfl⟩⟩⟩⟩⟩⟩⟩⟩⟩, rfl⟩)) ?_)
              intro g8271 w hS
              obtain ⟨h8273, H⟩ := ite_in H
              obtain ⟨l8274, hl8274, H⟩ := lt_out H
              refine EL.of (EO.append hS 37 37 36 96 8 kS36 A7964 C7965 x7963 rfl (some ⟨g8271, 0, none⟩) 1 l8272 (Rd.own 0 36 rfl) l8274 hl8274 (fun A8275 C8276 => Ass.own 36 kS36 (some ⟨g8271, 0, none⟩) 1 l8272 :: Ass.box 91 g3546 [.slice A3548 l3547.length C3549, .slice A3552 l3551.length C3553] :: Ass.deep 94 96 kS96 A3548 C3549 l3547 :: Ass.own 3 (Kd.int .i64) A3552 C3553 l3551 :: Ass.box 60 g8251 [.int .i32 ((l3541.getD x7972.toNat zS60).f0.f0), .int .i64 ((l3541.getD x7972.toNat zS60).f0.f1), .int .i64 ((l3541.getD x7972.toNat zS60).f0.f2), .slice b8250.1 ((l3541.getD x7972.toNat zS60).f0.f3).length b8250.2, .int .i32 ((l3541.getD x7972.toNat zS60).f0.f4.f0), .int .i32 ((l3541.getD x7972.toNat zS60).f0.f4.f1), .int .i32 ((l3541.getD x7972.toNat zS60).f0.f4.f2), .int .i32 ((l3541.getD x7972.toNat zS60).f0.f4.f3), .int .i64 ((l3541.getD x7972.toNat zS60).f0.f5), .int .i64 ((l3541.getD x7972.toNat zS60).f0.f6), .int .u32 ((l3541.getD x7972.toNat zS60).f0.f7), .int .i64 ((l3541.getD x7972.toNat zS60).f0.f8), .int .i32 ((l3541.getD x7972.toNat zS60).f1)] :: Ass.own 60 kS60 A7961 C7962 x7960 :: Ass.box 93 g3540 [.slice (some ad8249) l3541.length C3543] :: Ass.own 60 kS60 (some ad8249) C3543 l3541 :: Ass.own 36 kS36 A8275 C8276 l8274 :: Ass.own 36 kS36 A7968 C7969 x7967 :: os) 46 (by kernel_rfl) (by kernel_rfl) (by kernel_rfl) (by kernel_rfl) h8273 (fun _ _ => rfl) ?_)
              intro A8275 C8276 w hS
              refine EL.quick 1 [0, 1, 6, 7, 8, 9, 23, 24, 25] [(0, .pointer (some ⟨g3540, 0, none⟩)), (1, .pointer (some ⟨g3546, 0, none⟩)), (6, .slice A8275 l8274.length C8276), (7, .slice A7968 x7967.length C7969), (8, .int .i64 (IntKind.i64.wrap (x7971 - 1))), (9, .slice A7961 x7960.length C7962), (23, .slice (some ad8249) l3541.length C3543), (24, .int .i64 (l3541.length : Int)), (25, .int .i64 x7972)] (by kernel_rfl) ?_
              refine EL.done (by kernel_rfl) ?_
              refine EQ.pop ?_
              refine EQ.to ?_
              refine EQ.keep [0, 1, 6, 7, 8, 9, 23, 24, 25] [(0, .pointer (some ⟨g3540, 0, none⟩)), (1, .pointer (some ⟨g3546, 0, none⟩)), (6, .slice A8275 l8274.length C8276), (7, .slice A7968 x7967.length C7969), (8, .int .i64 (IntKind.i64.wrap (x7971 - 1))), (9, .slice A7961 x7960.length C7962), (23, .slice (some ad8249) l3541.length C3543), (24, .int .i64 (l3541.length : Int)), (25, .int .i64 x7972)] (by kernel_rfl) ?_
              exact fun a ha => ⟨x7960, l8274, x7967, IntKind.i64.wrap (x7971 - 1), g8251, b8250.1, b8250.2, A7961, C7962, A8275, C8276, A7968, C7969, ha, (hS.re [9, 9, 5, 5, 5, 9, 9, 9, 9] [9] rfl (sub_cons 0 rfl (sub_tail (sub_self)))), H⟩
            · rw [if_neg h8270] at H
              refine EW.region (id := 11) (ops := Cd16.r.r.r.l.r.l.l.r.r.l.l.r.r.r.r.r.ops) (by kernel_rfl) ?_
              refine EL.quick 1 [0, 1, 6, 7, 8, 11, 23, 24, 25, 47] [(0, .pointer (some ⟨g3540, 0, none⟩)), (1, .pointer (some ⟨g3546, 0, none⟩)), (6, .slice A7964 x7963.length C7965), (7, .slice A7968 x7967.length C7969), (8, .int .i64 (IntKind.i64.wrap (x7971 - 1))), (11, .pointer (some ⟨g8251, 0, none⟩)), (23, .slice (some ad8249) l3541.length C3543), (24, .int .i64 (l3541.length : Int)), (25, .int .i64 x7972), (47, .slice A7961 x7960.length C7962)] (by kernel_rfl) ?_
              refine EL.of (EO.Y (YO.loadBox hS 3 rfl 60 0 13 (.agg #[.int .i32 ((l3541.getD x7972.toNat zS60).f0.f0), .int .i64 ((l3541.getD x7972.toNat zS60).f0.f1), .int .i64 ((l3541.getD x7972.toNat zS60).f0.f2), .slice b8250.1 ((l3541.getD x7972.toNat zS60).f0.f3).length b8250.2, .int .i32 ((l3541.getD x7972.toNat zS60).f0.f4.f0), .int .i32 ((l3541.getD x7972.toNat zS60).f0.f4.f1), .int .i32 ((l3541.getD x7972.toNat zS60).f0.f4.f2), .int .i32 ((l3541.getD x7972.toNat zS60).f0.f4.f3), .int .i64 ((l3541.getD x7972.toNat zS60).f0.f5), .int .i64 ((l3541.getD x7972.toNat zS60).f0.f6), .int .u32 ((l3541.getD x7972.toNat zS60).f0.f7), .int .i64 ((l3541.getD x7972.toNat zS60).f0.f8), .int .i32 ((l3541.getD x7972.toNat zS60).f1)]) 48 (by kernel_rfl) (by kernel_rfl) (by kernel_rfl) (by kernel_rfl)) ?_)
              obtain ⟨l8278, hl8278, H⟩ := lt_out H
              refine EL.of (EO.lit hS kS60 60 58 1 #[(0, .agg #[.int .i32 ((l3541.getD x7972.toNat zS60).f0.f0), .int .i64 ((l3541.getD x7972.toNat zS60).f0.f1), .int .i64 ((l3541.getD x7972.toNat zS60).f0.f2), .slice b8250.1 ((l3541.getD x7972.toNat zS60).f0.f3).length b8250.2, .int .i32 ((l3541.getD x7972.toNat zS60).f0.f4.f0), .int .i32 ((l3541.getD x7972.toNat zS60).f0.f4.f1), .int .i32 ((l3541.getD x7972.toNat zS60).f0.f4.f2), .int .i32 ((l3541.getD x7972.toNat zS60).f0.f4.f3), .int .i64 ((l3541.getD x7972.toNat zS60).f0.f5), .int .i64 ((l3541.getD x7972.toNat zS60).f0.f6), .int .u32 ((l3541.getD x7972.toNat zS60).f0.f7), .int .i64 ((l3541.getD x7972.toNat zS60).f0.f8), .int .i32 ((l3541.getD x7972.toNat zS60).f1)])] [.int .i32 ((l3541.getD x7972.toNat zS60).f0.f0), .int .i64 ((l3541.getD x7972.toNat zS60).f0.f1), .int .i64 ((l3541.getD x7972.toNat zS60).f0.f2), .slice b8250.1 ((l3541.getD x7972.toNat zS60).f0.f3).length b8250.2, .int .i32 ((l3541.getD x7972.toNat zS60).f0.f4.f0), .int .i32 ((l3541.getD x7972.toNat zS60).f0.f4.f1), .int .i32 ((l3541.getD x7972.toNat zS60).f0.f4.f2), .int .i32 ((l3541.getD x7972.toNat zS60).f0.f4.f3), .int .i64 ((l3541.getD x7972.toNat zS60).f0.f5), .int .i64 ((l3541.getD x7972.toNat zS60).f0.f6), .int .u32 ((l3541.getD x7972.toNat zS60).f0.f7), .int .i64 ((l3541.getD x7972.toNat zS60).f0.f8), .int .i32 ((l3541.getD x7972.toNat zS60).f1)] l8278 49 (by kernel_rfl) (by kernel_rfl) (by kernel_rfl) (fun _ => (by kernel_rfl)) (by rw [hl8278]; rfl) (by kernel_rfl) (fun w G hr => (by rw [hl8278]; exact ⟨[.int .i32 ((l3541.getD x7972.toNat zS60).f0.f0), .int .i64 ((l3541.getD x7972.toNat zS60).f0.f1), .int .i64 ((l3541.getD x7972.toNat zS60).f0.f2), .slice b8250.1 ((l3541.getD x7972.toNat zS60).f0.f3).length b8250.2, .int .i32 ((l3541.getD x7972.toNat zS60).f0.f4.f0), .int .i32 ((l3541.getD x7972.toNat zS60).f0.f4.f1), .int .i32 ((l3541.getD x7972.toNat zS60).f0.f4.f2), .int .i32 ((l3541.getD x7972.toNat zS60).f0.f4.f3), .int .i64 ((l3541.getD x7972.toNat zS60).f0.f5), .int .i64 ((l3541.getD x7972.toNat zS60).f0.f6), .int .u32 ((l3541.getD x7972.toNat zS60).f0.f7), .int .i64 ((l3541.getD x7972.toNat zS60).f0.f8), .int .i32 ((l3541.getD x7972.toNat zS60).f1)], [], rfl, ⟨[.int .i32 ((l3541.getD x7972.toNat zS60).f0.f0), .int .i64 ((l3541.getD x7972.toNat zS60).f0.f1), .int .i64 ((l3541.getD x7972.toNat zS60).f0.f2), .slice b8250.1 ((l3541.getD x7972.toNat zS60).f0.f3).length b8250.2, .int .i32 ((l3541.getD x7972.toNat zS60).f0.f4.f0), .int .i32 ((l3541.getD x7972.toNat zS60).f0.f4.f1), .int .i32 ((l3541.getD x7972.toNat zS60).f0.f4.f2), .int .i32 ((l3541.getD x7972.toNat zS60).f0.f4.f3), .int .i64 ((l3541.getD x7972.toNat zS60).f0.f5), .int .i64 ((l3541.getD x7972.toNat zS60).f0.f6), .int .u32 ((l3541.getD x7972.toNat zS60).f0.f7), .int .i64 ((l3541.getD x7972.toNat zS60).f0.f8)], [.int .i32 ((l3541.getD x7972.toNat zS60).f1)], rfl, ⟨[.int .i32 ((l3541.getD x7972.toNat zS60).f0.f0)], [.int .i64 ((l3541.getD x7972.toNat zS60).f0.f1), .int .i64 ((l3541.getD x7972.toNat zS60).f0.f2), .slice b8250.1 ((l3541.getD x7972.toNat zS60).f0.f3).length b8250.2, .int .i32 ((l3541.getD x7972.toNat zS60).f0.f4.f0), .int .i32 ((l3541.getD x7972.toNat zS60).f0.f4.f1), .int .i32 ((l3541.getD x7972.toNat zS60).f0.f4.f2), .int .i32 ((l3541.getD x7972.toNat zS60).f0.f4.f3), .int .i64 ((l3541.getD x7972.toNat zS60).f0.f5), .int .i64 ((l3541.getD x7972.toNat zS60).f0.f6), .int .u32 ((l3541.getD x7972.toNat zS60).f0.f7), .int .i64 ((l3541.getD x7972.toNat zS60).f0.f8)], rfl, rfl, ⟨[.int .i64 ((l3541.getD x7972.toNat zS60).f0.f1)], [.int .i64 ((l3541.getD x7972.toNat zS60).f0.f2), .slice b8250.1 ((l3541.getD x7972.toNat zS60).f0.f3).length b8250.2, .int .i32 ((l3541.getD x7972.toNat zS60).f0.f4.f0), .int .i32 ((l3541.getD x7972.toNat zS60).f0.f4.f1), .int .i32 ((l3541.getD x7972.toNat zS60).f0.f4.f2), .int .i32 ((l3541.getD x7972.toNat zS60).f0.f4.f3), .int .i64 ((l3541.getD x7972.toNat zS60).f0.f5), .int .i64 ((l3541.getD x7972.toNat zS60).f0.f6), .int .u32 ((l3541.getD x7972.toNat zS60).f0.f7), .int .i64 ((l3541.getD x7972.toNat zS60).f0.f8)], rfl, rfl, ⟨[.int .i64 ((l3541.getD x7972.toNat zS60).f0.f2)], [.slice b8250.1 ((l3541.getD x7972.toNat zS60).f0.f3).length b8250.2, .int .i32 ((l3541.getD x7972.toNat zS60).f0.f4.f0), .int .i32 ((l3541.getD x7972.toNat zS60).f0.f4.f1), .int .i32 ((l3541.getD x7972.toNat zS60).f0.f4.f2), .int .i32 ((l3541.getD x7972.toNat zS60).f0.f4.f3), .int .i64 ((l3541.getD x7972.toNat zS60).f0.f5), .int .i64 ((l3541.getD x7972.toNat zS60).f0.f6), .int .u32 ((l3541.getD x7972.toNat zS60).f0.f7), .int .i64 ((l3541.getD x7972.toNat zS60).f0.f8)], rfl, rfl, ⟨[.slice b8250.1 ((l3541.getD x7972.toNat zS60).f0.f3).length b8250.2], [.int .i32 ((l3541.getD x7972.toNat zS60).f0.f4.f0), .int .i32 ((l3541.getD x7972.toNat zS60).f0.f4.f1), .int .i32 ((l3541.getD x7972.toNat zS60).f0.f4.f2), .int .i32 ((l3541.getD x7972.toNat zS60).f0.f4.f3), .int .i64 ((l3541.getD x7972.toNat zS60).f0.f5), .int .i64 ((l3541.getD x7972.toNat zS60).f0.f6), .int .u32 ((l3541.getD x7972.toNat zS60).f0.f7), .int .i64 ((l3541.getD x7972.toNat zS60).f0.f8)], rfl, (hr _ (List.mem_of_getElem? (i := 0) rfl)), ⟨[.int .i32 ((l3541.getD x7972.toNat zS60).f0.f4.f0), .int .i32 ((l3541.getD x7972.toNat zS60).f0.f4.f1), .int .i32 ((l3541.getD x7972.toNat zS60).f0.f4.f2), .int .i32 ((l3541.getD x7972.toNat zS60).f0.f4.f3)], [.int .i64 ((l3541.getD x7972.toNat zS60).f0.f5), .int .i64 ((l3541.getD x7972.toNat zS60).f0.f6), .int .u32 ((l3541.getD x7972.toNat zS60).f0.f7), .int .i64 ((l3541.getD x7972.toNat zS60).f0.f8)], rfl, ⟨[.int .i32 ((l3541.getD x7972.toNat zS60).f0.f4.f0)], [.int .i32 ((l3541.getD x7972.toNat zS60).f0.f4.f1), .int .i32 ((l3541.getD x7972.toNat zS60).f0.f4.f2), .int .i32 ((l3541.getD x7972.toNat zS60).f0.f4.f3)], rfl, rfl, ⟨[.int .i32 ((l3541.getD x7972.toNat zS60).f0.f4.f1)], [.int .i32 ((l3541.getD x7972.toNat zS60).f0.f4.f2), .int .i32 ((l3541.getD x7972.toNat zS60).f0.f4.f3)], rfl, rfl, ⟨[.int .i32 ((l3541.getD x7972.toNat zS60).f0.f4.f2)], [.int .i32 ((l3541.getD x7972.toNat zS60).f0.f4.f3)], rfl, rfl, ⟨[.int .i32 ((l3541.getD x7972.toNat zS60).f0.f4.f3)], [], rfl, rfl, rfl⟩⟩⟩⟩, ⟨[.int .i64 ((l3541.getD x7972.toNat zS60).f0.f5)], [.int .i64 ((l3541.getD x7972.toNat zS60).f0.f6), .int .u32 ((l3541.getD x7972.toNat zS60).f0.f7), .int .i64 ((l3541.getD x7972.toNat zS60).f0.f8)], rfl, rfl, ⟨[.int .i64 ((l3541.getD x7972.toNat zS60).f0.f6)], [.int .u32 ((l3541.getD x7972.toNat zS60).f0.f7), .int .i64 ((l3541.getD x7972.toNat zS60).f0.f8)], rfl, rfl, ⟨[.int .u32 ((l3541.getD x7972.toNat zS60).f0.f7)], [.int .i64 ((l3541.getD x7972.toNat zS60).f0.f8)], rfl, rfl, ⟨[.int .i64 ((l3541.getD x7972.toNat zS60).f0.f8)], [], rfl, rfl, rfl⟩⟩⟩⟩⟩⟩⟩⟩⟩, ⟨[.int .i32 ((l3541.getD x7972.toNat zS60).f1)], [], rfl, rfl, rfl⟩⟩, rfl⟩)) ?_)
              intro g8277 w hS
              obtain ⟨h8279, H⟩ := ite_in H
              obtain ⟨l8280, hl8280, H⟩ := lt_out H
              refine EL.of (EO.append hS 58 58 60 104 5 kS60 A7961 C7962 x7960 rfl (some ⟨g8277, 0, none⟩) 1 l8278 (Rd.own 0 60 rfl) l8280 hl8280 (fun A8281 C8282 => Ass.own 60 kS60 (some ⟨g8277, 0, none⟩) 1 l8278 :: Ass.box 91 g3546 [.slice A3548 l3547.length C3549, .slice A3552 l3551.length C3553] :: Ass.deep 94 96 kS96 A3548 C3549 l3547 :: Ass.own 3 (Kd.int .i64) A3552 C3553 l3551 :: Ass.box 60 g8251 [.int .i32 ((l3541.getD x7972.toNat zS60).f0.f0), .int .i64 ((l3541.getD x7972.toNat zS60).f0.f1), .int .i64 ((l3541.getD x7972.toNat zS60).f0.f2), .slice b8250.1 ((l3541.getD x7972.toNat zS60).f0.f3).length b8250.2, .int .i32 ((l3541.getD x7972.toNat zS60).f0.f4.f0), .int .i32 ((l3541.getD x7972.toNat zS60).f0.f4.f1), .int .i32 ((l3541.getD x7972.toNat zS60).f0.f4.f2), .int .i32 ((l3541.getD x7972.toNat zS60).f0.f4.f3), .int .i64 ((l3541.getD x7972.toNat zS60).f0.f5), .int .i64 ((l3541.getD x7972.toNat zS60).f0.f6), .int .u32 ((l3541.getD x7972.toNat zS60).f0.f7), .int .i64 ((l3541.getD x7972.toNat zS60).f0.f8), .int .i32 ((l3541.getD x7972.toNat zS60).f1)] :: Ass.own 60 kS60 A8281 C8282 l8280 :: Ass.box 93 g3540 [.slice (some ad8249) l3541.length C3543] :: Ass.own 60 kS60 (some ad8249) C3543 l3541 :: Ass.own 36 kS36 A7964 C7965 x7963 :: Ass.own 36 kS36 A7968 C7969 x7967 :: os) 50 (by kernel_rfl) (by kernel_rfl) (by kernel_rfl) (by kernel_rfl) h8279 (fun _ _ => rfl) ?_)
              intro A8281 C8282 w hS
              refine EL.quick 1 [0, 1, 6, 7, 8, 9, 23, 24, 25] [(0, .pointer (some ⟨g3540, 0, none⟩)), (1, .pointer (some ⟨g3546, 0, none⟩)), (6, .slice A7964 x7963.length C7965), (7, .slice A7968 x7967.length C7969), (8, .int .i64 (IntKind.i64.wrap (x7971 - 1))), (9, .slice A8281 l8280.length C8282), (23, .slice (some ad8249) l3541.length C3543), (24, .int .i64 (l3541.length : Int)), (25, .int .i64 x7972)] (by kernel_rfl) ?_
              refine EL.done (by kernel_rfl) ?_
              refine EQ.pop ?_
              refine EQ.to ?_
              refine EQ.keep [0, 1, 6, 7, 8, 9, 23, 24, 25] [(0, .pointer (some ⟨g3540, 0, none⟩)), (1, .pointer (some ⟨g3546, 0, none⟩)), (6, .slice A7964 x7963.length C7965), (7, .slice A7968 x7967.length C7969), (8, .int .i64 (IntKind.i64.wrap (x7971 - 1))), (9, .slice A8281 l8280.length C8282), (23, .slice (some ad8249) l3541.length C3543), (24, .int .i64 (l3541.length : Int)), (25, .int .i64 x7972)] (by kernel_rfl) ?_
              exact fun a ha => ⟨l8280, x7963, x7967, IntKind.i64.wrap (x7971 - 1), g8251, b8250.1, b8250.2, A8281, C8282, A7964, C7965, A7968, C7969, ha, (hS.re [9, 9, 5, 5, 5, 9, 9, 9, 9] [9] rfl (sub_cons 0 rfl (sub_tail (sub_self)))), H⟩
        · obtain ⟨x8233, x8236, x8239, x8242, g8230, A8231, C8232, A8234, C8235, A8237, C8238, A8240, C8241, ha, hS, H⟩ := hI
          rw [hj8243] at H
          (try dsimp only at H)
          refine EW.at ?_ a ha
          clear ha a
          refine EW.region (id := 12) (ops := Cd16.r.r.r.l.r.l.l.r.r.r.ops) (by kernel_rfl) ?_
          refine EL.quick 2 [0, 1, 6, 7, 8, 9, 23, 24, 25] [(0, .pointer (some ⟨g3540, 0, none⟩)), (1, .pointer (some ⟨g3546, 0, none⟩)), (6, .slice A8237 x8236.length C8238), (7, .slice A8240 x8239.length C8241), (8, .int .i64 x8242), (9, .slice A8234 x8233.length C8235), (23, .slice A3542 l3541.length C3543), (24, .int .i64 (l3541.length : Int)), (25, .int .i64 (IntKind.i64.wrap (x7972 + 1)))] (by kernel_rfl) ?_
          refine EL.done (by kernel_rfl) ?_
          refine EQ.to ?_
          refine EQ.keep [0, 1, 6, 7, 8, 9, 23, 24, 25] [(0, .pointer (some ⟨g3540, 0, none⟩)), (1, .pointer (some ⟨g3546, 0, none⟩)), (6, .slice A8237 x8236.length C8238), (7, .slice A8240 x8239.length C8241), (8, .int .i64 x8242), (9, .slice A8234 x8233.length C8235), (23, .slice A3542 l3541.length C3543), (24, .int .i64 (l3541.length : Int)), (25, .int .i64 (IntKind.i64.wrap (x7972 + 1)))] (by kernel_rfl) ?_
          exact fun a ha => ⟨n, Nat.lt_succ_self n, x8233, x8236, x8239, x8242, IntKind.i64.wrap (x7972 + 1), A8234, C8235, A8237, C8238, A8240, C8241, ha, (hS.re [8, 8, 8, 8, 8, 8, 8, 8] [8] rfl (sub_tail (sub_self))), H⟩
      · rw [if_neg h8141] at H
        refine EW.exit (id := 0) (by kernel_rfl) ?_
        refine EQ.exitCode ?_
        refine EQ.exitTo ?_
        refine EQ.exitHere ?_
        refine EQ.to ?_
        refine EQ.keep [0, 6, 7, 8, 9] [(0, .pointer (some ⟨g3540, 0, none⟩)), (6, .slice A7964 x7963.length C7965), (7, .slice A7968 x7967.length C7969), (8, .int .i64 x7971), (9, .slice A7961 x7960.length C7962)] (by kernel_rfl) ?_
        exact fun a ha => ⟨x7960, x7963, x7967, x7971, A7961, C7962, A7964, C7965, A7968, C7969, ha, (hS.re [7, 7, 7, 7, 7, 7, 7, 7] [] rfl (sub_self)), H⟩
  · obtain ⟨x7592, x7595, x7600, x7605, A7593, C7594, A7596, C7597, A7601, C7602, ha, hS, H⟩ := hI
    rw [hj7606] at H
    (try dsimp only at H)
    refine EW.at ?_ a ha
    clear ha a
    refine EW.seq (x := Cd16.r.r.r.r.l) (y := Cd16.r.r.r.r.r) (by kernel_rfl) ?_
    refine EW.region (id := 13) (ops := Cd16.r.r.r.r.l.ops) (by kernel_rfl) ?_
    refine EL.quick 4 [6, 7, 8, 53, 55] [(6, .slice A7596 x7595.length C7597), (7, .slice A7601 x7600.length C7602), (8, .int .i64 x7605), (53, .slice A7593 x7592.length C7594), (55, .pointer (some ⟨g3540, 0, none⟩))] (by kernel_rfl) ?_
    refine EL.of (EO.storeBox (os' := Ass.own 60 kS60 A7593 C7594 x7592 :: Ass.box 93 g3540 [.slice A7593 x7592.length C7594] :: Ass.own 60 kS60 A3542 C3543 l3541 :: Ass.box 91 g3546 [.slice A3548 l3547.length C3549, .slice A3552 l3551.length C3553] :: Ass.deep 94 96 kS96 A3548 C3549 l3547 :: Ass.own 3 (Kd.int .i64) A3552 C3553 l3551 :: Ass.own 36 kS36 A7596 C7597 x7595 :: Ass.own 36 kS36 A7601 C7602 x7600 :: os) hS 1 rfl 58 0 (.slice A7593 x7592.length C7594) [.slice A7593 x7592.length C7594] (by kernel_rfl) (by kernel_rfl) (by kernel_rfl) (by kernel_rfl) (by kernel_rfl) (by kernel_rfl) rfl rfl ?_)
    intro w hS
    refine EL.done (by kernel_rfl) ?_
    refine EQ.code ?_
    refine EW.seq (x := Cd16.r.r.r.r.r.l) (y := Cd16.r.r.r.r.r.r) (by kernel_rfl) ?_
    refine EW.region (id := 14) (ops := Cd16.r.r.r.r.r.l.ops) (by kernel_rfl) ?_
    refine EL.quick 6 [6, 7, 8] [(6, .slice A7596 x7595.length C7597), (7, .slice A7601 x7600.length C7602), (8, .int .i64 x7605)] (by kernel_rfl) ?_
    refine EL.done (by kernel_rfl) ?_
    refine EQ.code ?_
    refine EW.ret (by kernel_rfl) ?_
    simp only [Option.some.injEq, Prod.mk.injEq] at H
    obtain ⟨rfl, rfl, rfl, rfl⟩ := H
    exact EQ.leave (.tuple #[.slice A7596 x7595.length C7597, .slice A7601 x7600.length C7602, .int .i64 x7605]) (by kernel_rfl) ⟨_, rfl, A7593, C7594, A7596, C7597, A7601, C7602, rfl, (hS.re [7, 7, 2, 7, 7, 7, 7, 7] [] rfl (sub_self))⟩

/-! ### (*confidant/park.Park).Len: function 17 -/
def park_Park_Len.f (K : Nat) (l8318 : List S60) : Option Int := some (l8318.length : Int)
set_option maxRecDepth 100000 in
theorem park_Park_Len.calls {K : Nat} {l8318 : List S60} {g8317 : Nat} {A8319 : Option Addr} {C8320 : Nat} {x8322 : Int} {B w : World} {os : List Ass} {rs : List Ro} (H : park_Park_Len.f K l8318 = some x8322) (hS : St B w (Ass.box 93 g8317 [.slice A8319 l8318.length C8320] :: Ass.own 60 kS60 A8319 C8320 l8318 :: os) (rs)) :
    Calls Try.prog 17 [.pointer (some ⟨g8317, 0, none⟩)].toArray w (fun en w' => ∃ v, en = .returned v ∧ v = .int .i64 x8322 ∧ St B w' (Ass.box 93 g8317 [.slice A8319 l8318.length C8320] :: Ass.own 60 kS60 A8319 C8320 l8318 :: os) (rs)) := by
  unfold park_Park_Len.f at H
  refine calls_of_EW (args := [.pointer (some ⟨g8317, 0, none⟩)]) (c := Cd17) 8 Try.func17 (by kernel_rfl) (by kernel_rfl) (by kernel_rfl) ?_
  refine EW.seq (x := Cd17.l) (y := Cd17.r) (by kernel_rfl) ?_
  refine EW.region (id := 0) (ops := Cd17.l.ops) (by kernel_rfl) ?_
  refine EL.quick 1 [0] [(0, .pointer (some ⟨g8317, 0, none⟩))] (by kernel_rfl) ?_
  refine EL.done (by kernel_rfl) ?_
  refine EQ.code ?_
  refine EW.seq (x := Cd17.r.l) (y := Cd17.r.r) (by kernel_rfl) ?_
  refine EW.region (id := 1) (ops := Cd17.r.l.ops) (by kernel_rfl) ?_
  refine EL.quick 3 [5] [(5, .pointer (some ⟨g8317, 0, none⟩))] (by kernel_rfl) ?_
  refine EL.of (EO.Y (YO.loadBox hS 0 rfl 58 0 1 (.slice A8319 l8318.length C8320) 6 (by kernel_rfl) (by kernel_rfl) (by kernel_rfl) (by kernel_rfl)) ?_)
  refine EL.quick 2 [2] [(2, .int .i64 (l8318.length : Int))] (by kernel_rfl) ?_
  refine EL.done (by kernel_rfl) ?_
  refine EQ.code ?_
  refine EW.ret (by kernel_rfl) ?_
  obtain rfl := Option.some.inj H
  exact EQ.leave (.int .i64 (l8318.length : Int)) (by kernel_rfl) ⟨_, rfl, rfl, (hS.re [1, 1] [] rfl (sub_self))⟩

/-! ### (*confidant/park.Park).All: function 25 -/
def park_Park_All.l0 (K : Nat) (l8328 : List S60) : Nat → (List S60) → Int → Option (List S60)
  | 0, _, _ => none
  | n + 1, x8619, x8623 => if x8623 < (l8328.length : Int) then (if 0 ≤ x8623 then (b1 (park_copied.f K ((l8328.getD x8623.toNat zS60).f0.f0) ((l8328.getD x8623.toNat zS60).f0.f1) ((l8328.getD x8623.toNat zS60).f0.f2) ((l8328.getD x8623.toNat zS60).f0.f3) ((l8328.getD x8623.toNat zS60).f0.f4.f0) ((l8328.getD x8623.toNat zS60).f0.f4.f1) ((l8328.getD x8623.toNat zS60).f0.f4.f2) ((l8328.getD x8623.toNat zS60).f0.f4.f3) ((l8328.getD x8623.toNat zS60).f0.f5) ((l8328.getD x8623.toNat zS60).f0.f6) ((l8328.getD x8623.toNat zS60).f0.f7) ((l8328.getD x8623.toNat zS60).f0.f8) ((l8328.getD x8623.toNat zS60).f1)) fun (t8699 : S60) => (lt ([(⟨(⟨t8699.f0.f0, t8699.f0.f1, t8699.f0.f2, t8699.f0.f3, (⟨t8699.f0.f4.f0, t8699.f0.f4.f1, t8699.f0.f4.f2, t8699.f0.f4.f3⟩ : S33), t8699.f0.f5, t8699.f0.f6, t8699.f0.f7, t8699.f0.f8⟩ : S36), t8699.f1⟩ : S60)] : List S60) fun l8704 => (if (x8619.length + l8704.length) * 104 ≤ 140737488355328 then (lt (x8619 ++ l8704) fun l8706 => (park_Park_All.l0 K l8328 n l8706 (IntKind.i64.wrap (x8623 + 1)))) else none))) else none) else (some x8619)
def park_Park_All.f (K : Nat) (l8328 : List S60) : Option (List S60) := park_Park_All.l0 K l8328 K ([] : List S60) 0
set_option maxRecDepth 100000 in
theorem park_Park_All.calls {K : Nat} {l8328 : List S60} {g8327 : Nat} {A8329 : Option Addr} {C8330 : Nat} {x8518 : List S60} {B w : World} {os : List Ass} {rs : List Ro} (H : park_Park_All.f K l8328 = some x8518) (hS : St B w (Ass.box 93 g8327 [.slice A8329 l8328.length C8330] :: Ass.own 60 kS60 A8329 C8330 l8328 :: os) (rs)) :
    Calls Try.prog 25 [.pointer (some ⟨g8327, 0, none⟩)].toArray w (fun en w' => ∃ v, en = .returned v ∧ ∃ A8519 : Option Addr, ∃ C8520 : Nat, v = .slice A8519 x8518.length C8520 ∧ St B w' (Ass.box 93 g8327 [.slice A8329 l8328.length C8330] :: Ass.own 60 kS60 A8329 C8330 l8328 :: Ass.own 60 kS60 A8519 C8520 x8518 :: os) (rs)) := by
  unfold park_Park_All.f at H
  refine calls_of_EW (args := [.pointer (some ⟨g8327, 0, none⟩)]) (c := Cd25) 22 Try.func25 (by kernel_rfl) (by kernel_rfl) (by kernel_rfl) ?_
  refine EW.seq (x := Cd25.l) (y := Cd25.r) (by kernel_rfl) ?_
  refine EW.region (id := 0) (ops := Cd25.l.ops) (by kernel_rfl) ?_
  refine EL.quick 1 [0] [(0, .pointer (some ⟨g8327, 0, none⟩))] (by kernel_rfl) ?_
  refine EL.done (by kernel_rfl) ?_
  refine EQ.code ?_
  refine EW.seq (x := Cd25.r.l) (y := Cd25.r.r) (by kernel_rfl) ?_
  refine EW.region (id := 1) (ops := Cd25.r.l.ops) (by kernel_rfl) ?_
  refine EL.quick 1 [0, 3] [(0, .pointer (some ⟨g8327, 0, none⟩)), (3, .slice none ([] : List S60).length 0)] (by kernel_rfl) ?_
  refine EL.done (by kernel_rfl) ?_
  refine EQ.code ?_
  refine EW.seq (x := Cd25.r.r.l) (y := Cd25.r.r.r) (by kernel_rfl) ?_
  refine EW.seq (x := Cd25.r.r.l.l) (y := Cd25.r.r.l.r) (by kernel_rfl) ?_
  refine EW.region (id := 2) (ops := Cd25.r.r.l.l.ops) (by kernel_rfl) ?_
  refine EL.quick 3 [3, 8] [(3, .slice none ([] : List S60).length 0), (8, .pointer (some ⟨g8327, 0, none⟩))] (by kernel_rfl) ?_
  refine EL.of (EO.Y (YO.loadBox hS 0 rfl 58 0 1 (.slice A8329 l8328.length C8330) 9 (by kernel_rfl) (by kernel_rfl) (by kernel_rfl) (by kernel_rfl)) ?_)
  refine EL.quick 2 [3, 9, 10, 11] [(3, .slice none ([] : List S60).length 0), (9, .slice A8329 l8328.length C8330), (10, .int .i64 (l8328.length : Int)), (11, .int .i64 0)] (by kernel_rfl) ?_
  refine EL.done (by kernel_rfl) ?_
  refine EQ.code ?_
  refine EW.block (x := Cd25.r.r.l.r.l) (id := 0) (by kernel_rfl) ?_
  have hS := St.nilO hS 60 kS60
  refine EW.loop (x := Cd25.r.r.l.r.l.l) (fun n a w => ∃ x8619 : List S60, ∃ x8623 : Int, ∃ A8620 : Option Addr, ∃ C8621 : Nat, Sat 22 [(3, .slice A8620 x8619.length C8621), (9, .slice A8329 l8328.length C8330), (10, .int .i64 (l8328.length : Int)), (11, .int .i64 x8623)] a ∧ St B w (Ass.box 93 g8327 [.slice A8329 l8328.length C8330] :: Ass.own 60 kS60 A8329 C8330 l8328 :: Ass.own 60 kS60 A8620 C8621 x8619 :: os) (rs) ∧ park_Park_All.l0 K l8328 n x8619 x8623 = some x8518) K (by kernel_rfl) ?_ (fun n a w hI => ?_)
  · refine EQ.keep [3, 9, 10, 11] [(3, .slice none ([] : List S60).length 0), (9, .slice A8329 l8328.length C8330), (10, .int .i64 (l8328.length : Int)), (11, .int .i64 0)] (by kernel_rfl) ?_
    exact fun a ha => ⟨([] : List S60), 0, none, 0, ha, (hS.re [0, 2, 2] [] rfl (sub_self)), H⟩
  · obtain ⟨x8619, x8623, A8620, C8621, ha, hS, H⟩ := hI
    obtain _ | n := n
    · simp [park_Park_All.l0] at H
    rw [park_Park_All.l0.eq_2] at H
    refine EW.at ?_ a ha
    clear ha a
    refine EW.seq (x := Cd25.r.r.l.r.l.l.l) (y := Cd25.r.r.l.r.l.l.r) (by kernel_rfl) ?_
    refine EW.region (id := 3) (ops := Cd25.r.r.l.r.l.l.l.ops) (by kernel_rfl) ?_
    refine EL.quick 1 [3, 9, 10, 11, 12] [(3, .slice A8620 x8619.length C8621), (9, .slice A8329 l8328.length C8330), (10, .int .i64 (l8328.length : Int)), (11, .int .i64 x8623), (12, .bool (decide (x8623 < (l8328.length : Int))))] (by kernel_rfl) ?_
    refine EL.done (by kernel_rfl) ?_
    refine EQ.code ?_
    refine EW.seq (x := Cd25.r.r.l.r.l.l.r.l) (y := Cd25.r.r.l.r.l.l.r.r) (by kernel_rfl) ?_
    refine EW.condP (o := (.tmp 12)) (x := Cd25.r.r.l.r.l.l.r.l.l) (y := Cd25.r.r.l.r.l.l.r.l.r) (x8623 < (l8328.length : Int)) (by kernel_rfl) (by kernel_rfl) (fun h8672 => ?_) (fun h8672 => ?_)
    · rw [if_pos h8672] at H
      refine EW.skip (by kernel_rfl) ?_
      refine EQ.code ?_
      refine EW.seq (x := Cd25.r.r.l.r.l.l.r.r.l) (y := Cd25.r.r.l.r.l.l.r.r.r) (by kernel_rfl) ?_
      refine EW.block (x := Cd25.r.r.l.r.l.l.r.r.l.l) (id := 1) (by kernel_rfl) ?_
      refine EW.seq (x := Cd25.r.r.l.r.l.l.r.r.l.l.l) (y := Cd25.r.r.l.r.l.l.r.r.l.l.r) (by kernel_rfl) ?_
      refine EW.region (id := 4) (ops := Cd25.r.r.l.r.l.l.r.r.l.l.l.ops) (by kernel_rfl) ?_
      obtain ⟨h8695, H⟩ := ite_in H
      obtain ⟨ad8696, rfl⟩ := St.rd_some hS (Rd.own 1 60 rfl) h8695 h8672
      refine EL.of (EO.Y (YO.idx 58 13 ad8696 l8328.length C8330 .i64 x8623 13 (by kernel_rfl) (by kernel_rfl) (by kernel_rfl) (by kernel_rfl) h8695 h8672) ?_)
      refine EL.of (EO.loadPt hS kS60 ad8696 C8330 l8328 (Rd.own 1 60 rfl) zS60 cellsS60 factsS60 partsS60 x8623 h8695 h8672 60 13 0 13 rfl (fun b8697 => .agg #[.int .i32 ((l8328.getD x8623.toNat zS60).f0.f0), .int .i64 ((l8328.getD x8623.toNat zS60).f0.f1), .int .i64 ((l8328.getD x8623.toNat zS60).f0.f2), .slice b8697.1 ((l8328.getD x8623.toNat zS60).f0.f3).length b8697.2, .int .i32 ((l8328.getD x8623.toNat zS60).f0.f4.f0), .int .i32 ((l8328.getD x8623.toNat zS60).f0.f4.f1), .int .i32 ((l8328.getD x8623.toNat zS60).f0.f4.f2), .int .i32 ((l8328.getD x8623.toNat zS60).f0.f4.f3), .int .i64 ((l8328.getD x8623.toNat zS60).f0.f5), .int .i64 ((l8328.getD x8623.toNat zS60).f0.f6), .int .u32 ((l8328.getD x8623.toNat zS60).f0.f7), .int .i64 ((l8328.getD x8623.toNat zS60).f0.f8), .int .i32 ((l8328.getD x8623.toNat zS60).f1)]) 14 (by kernel_rfl) (by kernel_rfl) (by kernel_rfl) (fun b8697 => (by kernel_rfl)) ?_)
      intro b8697 hS
      refine EL.of (EO.alloc hS 60 (.agg #[.int .i32 0, .int .i64 0, .int .i64 0, .slice none ([] : List Int).length 0, .int .i32 0, .int .i32 0, .int .i32 0, .int .i32 0, .int .i64 0, .int .i64 0, .int .u32 0, .int .i64 0, .int .i32 0]) [.int .i32 0, .int .i64 0, .int .i64 0, .slice none ([] : List Int).length 0, .int .i32 0, .int .i32 0, .int .i32 0, .int .i32 0, .int .i64 0, .int .i64 0, .int .u32 0, .int .i64 0, .int .i32 0] 5 (by kernel_rfl) (by kernel_rfl) (by kernel_rfl) (by kernel_rfl) (by first | rfl | kernel_rfl) ?_)
      intro g8698 w hS
      refine EL.of (EO.storeBox (os' := Ass.box 60 g8698 [.int .i32 ((l8328.getD x8623.toNat zS60).f0.f0), .int .i64 ((l8328.getD x8623.toNat zS60).f0.f1), .int .i64 ((l8328.getD x8623.toNat zS60).f0.f2), .slice b8697.1 ((l8328.getD x8623.toNat zS60).f0.f3).length b8697.2, .int .i32 ((l8328.getD x8623.toNat zS60).f0.f4.f0), .int .i32 ((l8328.getD x8623.toNat zS60).f0.f4.f1), .int .i32 ((l8328.getD x8623.toNat zS60).f0.f4.f2), .int .i32 ((l8328.getD x8623.toNat zS60).f0.f4.f3), .int .i64 ((l8328.getD x8623.toNat zS60).f0.f5), .int .i64 ((l8328.getD x8623.toNat zS60).f0.f6), .int .u32 ((l8328.getD x8623.toNat zS60).f0.f7), .int .i64 ((l8328.getD x8623.toNat zS60).f0.f8), .int .i32 ((l8328.getD x8623.toNat zS60).f1)] :: Ass.box 93 g8327 [.slice (some ad8696) l8328.length C8330] :: Ass.own 60 kS60 (some ad8696) C8330 l8328 :: Ass.own 60 kS60 A8620 C8621 x8619 :: os) hS 0 rfl 60 0 (.agg #[.int .i32 ((l8328.getD x8623.toNat zS60).f0.f0), .int .i64 ((l8328.getD x8623.toNat zS60).f0.f1), .int .i64 ((l8328.getD x8623.toNat zS60).f0.f2), .slice b8697.1 ((l8328.getD x8623.toNat zS60).f0.f3).length b8697.2, .int .i32 ((l8328.getD x8623.toNat zS60).f0.f4.f0), .int .i32 ((l8328.getD x8623.toNat zS60).f0.f4.f1), .int .i32 ((l8328.getD x8623.toNat zS60).f0.f4.f2), .int .i32 ((l8328.getD x8623.toNat zS60).f0.f4.f3), .int .i64 ((l8328.getD x8623.toNat zS60).f0.f5), .int .i64 ((l8328.getD x8623.toNat zS60).f0.f6), .int .u32 ((l8328.getD x8623.toNat zS60).f0.f7), .int .i64 ((l8328.getD x8623.toNat zS60).f0.f8), .int .i32 ((l8328.getD x8623.toNat zS60).f1)]) [.int .i32 ((l8328.getD x8623.toNat zS60).f0.f0), .int .i64 ((l8328.getD x8623.toNat zS60).f0.f1), .int .i64 ((l8328.getD x8623.toNat zS60).f0.f2), .slice b8697.1 ((l8328.getD x8623.toNat zS60).f0.f3).length b8697.2, .int .i32 ((l8328.getD x8623.toNat zS60).f0.f4.f0), .int .i32 ((l8328.getD x8623.toNat zS60).f0.f4.f1), .int .i32 ((l8328.getD x8623.toNat zS60).f0.f4.f2), .int .i32 ((l8328.getD x8623.toNat zS60).f0.f4.f3), .int .i64 ((l8328.getD x8623.toNat zS60).f0.f5), .int .i64 ((l8328.getD x8623.toNat zS60).f0.f6), .int .u32 ((l8328.getD x8623.toNat zS60).f0.f7), .int .i64 ((l8328.getD x8623.toNat zS60).f0.f8), .int .i32 ((l8328.getD x8623.toNat zS60).f1)] (by kernel_rfl) (by kernel_rfl) (by kernel_rfl) (by kernel_rfl) (by kernel_rfl) (by kernel_rfl) rfl rfl ?_)
      intro w hS
      refine EL.done (by kernel_rfl) ?_
      refine EQ.code ?_
      refine EW.region (id := 5) (ops := Cd25.r.r.l.r.l.l.r.r.l.l.r.ops) (by kernel_rfl) ?_
      refine EL.quick 1 [5, 9, 10, 11, 15] [(5, .pointer (some ⟨g8698, 0, none⟩)), (9, .slice (some ad8696) l8328.length C8330), (10, .int .i64 (l8328.length : Int)), (11, .int .i64 x8623), (15, .slice A8620 x8619.length C8621)] (by kernel_rfl) ?_
      refine EL.of (EO.Y (YO.loadBox hS 0 rfl 60 0 13 (.agg #[.int .i32 ((l8328.getD x8623.toNat zS60).f0.f0), .int .i64 ((l8328.getD x8623.toNat zS60).f0.f1), .int .i64 ((l8328.getD x8623.toNat zS60).f0.f2), .slice b8697.1 ((l8328.getD x8623.toNat zS60).f0.f3).length b8697.2, .int .i32 ((l8328.getD x8623.toNat zS60).f0.f4.f0), .int .i32 ((l8328.getD x8623.toNat zS60).f0.f4.f1), .int .i32 ((l8328.getD x8623.toNat zS60).f0.f4.f2), .int .i32 ((l8328.getD x8623.toNat zS60).f0.f4.f3), .int .i64 ((l8328.getD x8623.toNat zS60).f0.f5), .int .i64 ((l8328.getD x8623.toNat zS60).f0.f6), .int .u32 ((l8328.getD x8623.toNat zS60).f0.f7), .int .i64 ((l8328.getD x8623.toNat zS60).f0.f8), .int .i32 ((l8328.getD x8623.toNat zS60).f1)]) 16 (by kernel_rfl) (by kernel_rfl) (by kernel_rfl) (by kernel_rfl)) ?_)
      have hS : St B _ (Ass.box 60 g8698 [.int .i32 ((l8328.getD x8623.toNat zS60).f0.f0), .int .i64 ((l8328.getD x8623.toNat zS60).f0.f1), .int .i64 ((l8328.getD x8623.toNat zS60).f0.f2), .slice b8697.1 ((l8328.getD x8623.toNat zS60).f0.f3).length b8697.2, .int .i32 ((l8328.getD x8623.toNat zS60).f0.f4.f0), .int .i32 ((l8328.getD x8623.toNat zS60).f0.f4.f1), .int .i32 ((l8328.getD x8623.toNat zS60).f0.f4.f2), .int .i32 ((l8328.getD x8623.toNat zS60).f0.f4.f3), .int .i64 ((l8328.getD x8623.toNat zS60).f0.f5), .int .i64 ((l8328.getD x8623.toNat zS60).f0.f6), .int .u32 ((l8328.getD x8623.toNat zS60).f0.f7), .int .i64 ((l8328.getD x8623.toNat zS60).f0.f8), .int .i32 ((l8328.getD x8623.toNat zS60).f1)] :: Ass.box 93 g8327 [.slice (some ad8696) l8328.length C8330] :: Ass.own 60 kS60 (some ad8696) C8330 l8328 :: Ass.own 60 kS60 A8620 C8621 x8619 :: os) (Ro.sl (Kd.int .i32) b8697.1 b8697.2 ((l8328.getD x8623.toNat zS60).f0.f3) :: Ro.sl (Kd.int .i32) b8697.1 b8697.2 ((l8328.getD x8623.toNat zS60).f0.f3) :: rs) := hS.re [] [] rfl (sub_cons 0 rfl sub_self)
      obtain ⟨t8699, hc8702, H⟩ := b1_out H
      refine EL.of (EO.callD 44 [.agg #[.int .i32 ((l8328.getD x8623.toNat zS60).f0.f0), .int .i64 ((l8328.getD x8623.toNat zS60).f0.f1), .int .i64 ((l8328.getD x8623.toNat zS60).f0.f2), .slice b8697.1 ((l8328.getD x8623.toNat zS60).f0.f3).length b8697.2, .int .i32 ((l8328.getD x8623.toNat zS60).f0.f4.f0), .int .i32 ((l8328.getD x8623.toNat zS60).f0.f4.f1), .int .i32 ((l8328.getD x8623.toNat zS60).f0.f4.f2), .int .i32 ((l8328.getD x8623.toNat zS60).f0.f4.f3), .int .i64 ((l8328.getD x8623.toNat zS60).f0.f5), .int .i64 ((l8328.getD x8623.toNat zS60).f0.f6), .int .u32 ((l8328.getD x8623.toNat zS60).f0.f7), .int .i64 ((l8328.getD x8623.toNat zS60).f0.f8), .int .i32 ((l8328.getD x8623.toNat zS60).f1)]] _ 17 (by kernel_rfl) (by kernel_rfl) (by kernel_rfl) (park_copied.calls hc8702 hS) ?_)
      rintro v w ⟨A8700, C8701, rfl, hS⟩
      obtain ⟨l8704, hl8704, H⟩ := lt_out H
      refine EL.of (EO.lit hS kS60 60 58 1 #[(0, .agg #[.int .i32 t8699.f0.f0, .int .i64 t8699.f0.f1, .int .i64 t8699.f0.f2, .slice A8700 t8699.f0.f3.length C8701, .int .i32 t8699.f0.f4.f0, .int .i32 t8699.f0.f4.f1, .int .i32 t8699.f0.f4.f2, .int .i32 t8699.f0.f4.f3, .int .i64 t8699.f0.f5, .int .i64 t8699.f0.f6, .int .u32 t8699.f0.f7, .int .i64 t8699.f0.f8, .int .i32 t8699.f1])] [.int .i32 t8699.f0.f0, .int .i64 t8699.f0.f1, .int .i64 t8699.f0.f2, .slice A8700 t8699.f0.f3.length C8701, .int .i32 t8699.f0.f4.f0, .int .i32 t8699.f0.f4.f1, .int .i32 t8699.f0.f4.f2, .int .i32 t8699.f0.f4.f3, .int .i64 t8699.f0.f5, .int .i64 t8699.f0.f6, .int .u32 t8699.f0.f7, .int .i64 t8699.f0.f8, .int .i32 t8699.f1] l8704 18 (by kernel_rfl) (by kernel_rfl) (by kernel_rfl) (fun _ => (by kernel_rfl)) (by rw [hl8704]; rfl) (by kernel_rfl) (fun w G hr => (by rw [hl8704]; exact ⟨[.int .i32 t8699.f0.f0, .int .i64 t8699.f0.f1, .int .i64 t8699.f0.f2, .slice A8700 t8699.f0.f3.length C8701, .int .i32 t8699.f0.f4.f0, .int .i32 t8699.f0.f4.f1, .int .i32 t8699.f0.f4.f2, .int .i32 t8699.f0.f4.f3, .int .i64 t8699.f0.f5, .int .i64 t8699.f0.f6, .int .u32 t8699.f0.f7, .int .i64 t8699.f0.f8, .int .i32 t8699.f1], [], rfl, ⟨[.int .i32 t8699.f0.f0, .int .i64 t8699.f0.f1, .int .i64 t8699.f0.f2, .slice A8700 t8699.f0.f3.length C8701, .int .i32 t8699.f0.f4.f0, .int .i32 t8699.f0.f4.f1, .int .i32 t8699.f0.f4.f2, .int .i32 t8699.f0.f4.f3, .int .i64 t8699.f0.f5, .int .i64 t8699.f0.f6, .int .u32 t8699.f0.f7, .int .i64 t8699.f0.f8], [.int .i32 t8699.f1], rfl, ⟨[.int .i32 t8699.f0.f0], [.int .i64 t8699.f0.f1, .int .i64 t8699.f0.f2, .slice A8700 t8699.f0.f3.length C8701, .int .i32 t8699.f0.f4.f0, .int .i32 t8699.f0.f4.f1, .int .i32 t8699.f0.f4.f2, .int .i32 t8699.f0.f4.f3, .int .i64 t8699.f0.f5, .int .i64 t8699.f0.f6, .int .u32 t8699.f0.f7, .int .i64 t8699.f0.f8], rfl, rfl, ⟨[.int .i64 t8699.f0.f1], [.int .i64 t8699.f0.f2, .slice A8700 t8699.f0.f3.length C8701, .int .i32 t8699.f0.f4.f0, .int .i32 t8699.f0.f4.f1, .int .i32 t8699.f0.f4.f2, .int .i32 t8699.f0.f4.f3, .int .i64 t8699.f0.f5, .int .i64 t8699.f0.f6, .int .u32 t8699.f0.f7, .int .i64 t8699.f0.f8], rfl, rfl, ⟨[.int .i64 t8699.f0.f2], [.slice A8700 t8699.f0.f3.length C8701, .int .i32 t8699.f0.f4.f0, .int .i32 t8699.f0.f4.f1, .int .i32 t8699.f0.f4.f2, .int .i32 t8699.f0.f4.f3, .int .i64 t8699.f0.f5, .int .i64 t8699.f0.f6, .int .u32 t8699.f0.f7, .int .i64 t8699.f0.f8], rfl, rfl, ⟨[.slice A8700 t8699.f0.f3.length C8701], [.int .i32 t8699.f0.f4.f0, .int .i32 t8699.f0.f4.f1, .int .i32 t8699.f0.f4.f2, .int .i32 t8699.f0.f4.f3, .int .i64 t8699.f0.f5, .int .i64 t8699.f0.f6, .int .u32 t8699.f0.f7, .int .i64 t8699.f0.f8], rfl, (hr _ (List.mem_of_getElem? (i := 0) rfl)), ⟨[.int .i32 t8699.f0.f4.f0, .int .i32 t8699.f0.f4.f1, .int .i32 t8699.f0.f4.f2, .int .i32 t8699.f0.f4.f3], [.int .i64 t8699.f0.f5, .int .i64 t8699.f0.f6, .int .u32 t8699.f0.f7, .int .i64 t8699.f0.f8], rfl, ⟨[.int .i32 t8699.f0.f4.f0], [.int .i32 t8699.f0.f4.f1, .int .i32 t8699.f0.f4.f2, .int .i32 t8699.f0.f4.f3], rfl, rfl, ⟨[.int .i32 t8699.f0.f4.f1], [.int .i32 t8699.f0.f4.f2, .int .i32 t8699.f0.f4.f3], rfl, rfl, ⟨[.int .i32 t8699.f0.f4.f2], [.int .i32 t8699.f0.f4.f3], rfl, rfl, ⟨[.int .i32 t8699.f0.f4.f3], [], rfl, rfl, rfl⟩⟩⟩⟩, ⟨[.int .i64 t8699.f0.f5], [.int .i64 t8699.f0.f6, .int .u32 t8699.f0.f7, .int .i64 t8699.f0.f8], rfl, rfl, ⟨[.int .i64 t8699.f0.f6], [.int .u32 t8699.f0.f7, .int .i64 t8699.f0.f8], rfl, rfl, ⟨[.int .u32 t8699.f0.f7], [.int .i64 t8699.f0.f8], rfl, rfl, ⟨[.int .i64 t8699.f0.f8], [], rfl, rfl, rfl⟩⟩⟩⟩⟩⟩⟩⟩⟩, ⟨[.int .i32 t8699.f1], [], rfl, rfl, rfl⟩⟩, rfl⟩)) ?_)
      intro g8703 w hS
      obtain ⟨h8705, H⟩ := ite_in H
      obtain ⟨l8706, hl8706, H⟩ := lt_out H
      refine EL.of (EO.append hS 58 58 60 104 4 kS60 A8620 C8621 x8619 rfl (some ⟨g8703, 0, none⟩) 1 l8704 (Rd.own 0 60 rfl) l8706 hl8706 (fun A8707 C8708 => Ass.own 60 kS60 (some ⟨g8703, 0, none⟩) 1 l8704 :: Ass.box 60 g8698 [.int .i32 ((l8328.getD x8623.toNat zS60).f0.f0), .int .i64 ((l8328.getD x8623.toNat zS60).f0.f1), .int .i64 ((l8328.getD x8623.toNat zS60).f0.f2), .slice b8697.1 ((l8328.getD x8623.toNat zS60).f0.f3).length b8697.2, .int .i32 ((l8328.getD x8623.toNat zS60).f0.f4.f0), .int .i32 ((l8328.getD x8623.toNat zS60).f0.f4.f1), .int .i32 ((l8328.getD x8623.toNat zS60).f0.f4.f2), .int .i32 ((l8328.getD x8623.toNat zS60).f0.f4.f3), .int .i64 ((l8328.getD x8623.toNat zS60).f0.f5), .int .i64 ((l8328.getD x8623.toNat zS60).f0.f6), .int .u32 ((l8328.getD x8623.toNat zS60).f0.f7), .int .i64 ((l8328.getD x8623.toNat zS60).f0.f8), .int .i32 ((l8328.getD x8623.toNat zS60).f1)] :: Ass.box 93 g8327 [.slice (some ad8696) l8328.length C8330] :: Ass.own 60 kS60 (some ad8696) C8330 l8328 :: Ass.own 60 kS60 A8707 C8708 l8706 :: os) 19 (by kernel_rfl) (by kernel_rfl) (by kernel_rfl) (by kernel_rfl) h8705 (fun _ _ => rfl) ?_)
      intro A8707 C8708 w hS
      refine EL.quick 1 [3, 9, 10, 11] [(3, .slice A8707 l8706.length C8708), (9, .slice (some ad8696) l8328.length C8330), (10, .int .i64 (l8328.length : Int)), (11, .int .i64 x8623)] (by kernel_rfl) ?_
      refine EL.done (by kernel_rfl) ?_
      refine EQ.pop ?_
      refine EQ.code ?_
      refine EW.region (id := 6) (ops := Cd25.r.r.l.r.l.l.r.r.r.ops) (by kernel_rfl) ?_
      refine EL.quick 2 [3, 9, 10, 11] [(3, .slice A8707 l8706.length C8708), (9, .slice (some ad8696) l8328.length C8330), (10, .int .i64 (l8328.length : Int)), (11, .int .i64 (IntKind.i64.wrap (x8623 + 1)))] (by kernel_rfl) ?_
      refine EL.done (by kernel_rfl) ?_
      refine EQ.to ?_
      refine EQ.keep [3, 9, 10, 11] [(3, .slice A8707 l8706.length C8708), (9, .slice (some ad8696) l8328.length C8330), (10, .int .i64 (l8328.length : Int)), (11, .int .i64 (IntKind.i64.wrap (x8623 + 1)))] (by kernel_rfl) ?_
      exact fun a ha => ⟨n, Nat.lt_succ_self n, l8706, IntKind.i64.wrap (x8623 + 1), A8707, C8708, ha, (hS.re [4, 4, 4] [3, 3] rfl (sub_tail (sub_tail (sub_tail (sub_self))))), H⟩
    · rw [if_neg h8672] at H
      refine EW.exit (id := 0) (by kernel_rfl) ?_
      refine EQ.exitCode ?_
      refine EQ.exitTo ?_
      refine EQ.exitHere ?_
      refine EQ.code ?_
      refine EW.seq (x := Cd25.r.r.r.l) (y := Cd25.r.r.r.r) (by kernel_rfl) ?_
      refine EW.region (id := 7) (ops := Cd25.r.r.r.l.ops) (by kernel_rfl) ?_
      refine EL.quick 2 [2] [(2, .slice A8620 x8619.length C8621)] (by kernel_rfl) ?_
      refine EL.done (by kernel_rfl) ?_
      refine EQ.code ?_
      refine EW.ret (by kernel_rfl) ?_
      obtain rfl := Option.some.inj H
      exact EQ.leave (.slice A8620 x8619.length C8621) (by kernel_rfl) ⟨_, rfl, A8620, C8621, rfl, (hS.re [2, 2, 2] [] rfl (sub_self))⟩

/-! ### confidant/confidantlaw20.known: function 10 -/
def confidantlaw20_known.f (K : Nat)  : Option Bool := lt ([3] : List Int) fun l8733 => (b2 (future_New.f K l8733) fun (t8734 : List (List S96)) (t8735 : List Int) => (b1 (park_New.f K) fun (t8747 : List S60) => (b3 (future_Futures_Make.f K t8734 t8735 0 0) fun (t8758 : List (List S96)) (t8759 : Int) (t8760 : Bool) => (b3 (future_Futures_Make.f K t8758 t8735 0 0) fun (t8770 : List (List S96)) (t8771 : Int) (t8772 : Bool) => (b2 (future_Futures_Keep.f K t8770 t8735 t8759 1) fun (t8781 : List (List S96)) (t8782 : Bool) => (b1 (park_Park_Add.f K t8747 5 0 0 ([] : List Int) 0 0 0 0 0 0 0 0 t8759) fun (t8790 : List S60) => (b1 (park_Park_Add.f K t8790 6 0 0 ([] : List Int) 0 0 0 0 0 0 0 0 t8771) fun (t8798 : List S60) => (b1 (park_Park_Add.f K t8798 7 0 0 ([] : List Int) 0 0 0 0 0 0 0 0 t8771) fun (t8806 : List S60) => (b4 (park_Park_Look.f K t8806 t8781 t8735 2) fun (t8821 : List S60) (t8822 : List S36) (t8823 : List S36) (t8824 : Int) => (if (t8822.length : Int) = 1 then (if (0 : Int) < (t8822.length : Int) then (if ((t8822.getD (0 : Int).toNat zS36).f0) = 5 then (if (t8823.length : Int) = 1 then (if (0 : Int) < (t8823.length : Int) then (if ((t8823.getD (0 : Int).toNat zS36).f0) = 7 then (if t8824 = 0 then (b1 (park_Park_Len.f K t8821) fun (t8843 : Int) => (if t8843 = 1 then (b1 (park_Park_All.f K t8821) fun (t8846 : List S60) => (if (t8846.length : Int) = 1 then (b1 (park_Park_All.f K t8821) fun (t8851 : List S60) => (if (0 : Int) < (t8851.length : Int) then (some (decide (((t8851.getD (0 : Int).toNat zS60).f1) = t8771))) else none)) else (some false))) else (some false))) else (some false)) else (some false)) else none) else (some false)) else (some false)) else none) else (some false)))))))))))
set_option maxRecDepth 100000 in
theorem confidantlaw20_known.calls {K : Nat} {x8721 : Bool} {B w : World} {os : List Ass} {rs : List Ro} (H : confidantlaw20_known.f K = some x8721) (hS : St B w (os) (rs)) :
    Calls Try.prog 10 [].toArray w (fun en w' => ∃ v, en = .returned v ∧ v = .bool (x8721) ∧ St B w' (os) (rs)) := by
  unfold confidantlaw20_known.f at H
  refine calls_of_EW (args := []) (c := Cd10) 97 Try.func10 (by kernel_rfl) (by kernel_rfl) (by kernel_rfl) ?_
  refine EW.seq (x := Cd10.l) (y := Cd10.r) (by kernel_rfl) ?_
  refine EW.region (id := 0) (ops := Cd10.l.ops) (by kernel_rfl) ?_
  refine EL.quick 1 [] [] (by kernel_rfl) ?_
  refine EL.done (by kernel_rfl) ?_
  refine EQ.code ?_
  refine EW.seq (x := Cd10.r.l) (y := Cd10.r.r) (by kernel_rfl) ?_
  refine EW.region (id := 1) (ops := Cd10.r.l.ops) (by kernel_rfl) ?_
  obtain ⟨l8733, hl8733, H⟩ := lt_out H
  refine EL.of (EO.lit hS (Kd.int .i64) 3 66 1 #[(0, .int .i64 3)] [.int .i64 3] l8733 10 (by kernel_rfl) (by kernel_rfl) (by kernel_rfl) (fun _ => (by kernel_rfl)) (by rw [hl8733]; rfl) (by kernel_rfl) (fun w G hr => (by rw [hl8733]; exact ⟨[.int .i64 3], [], rfl, rfl, rfl⟩)) ?_)
  intro g8732 w hS
  have hS := St.fr hS 0 rfl
  have hS : St B _ (os) (Ro.sl (Kd.int .i64) (some ⟨g8732, 0, none⟩) 1 l8733 :: Ro.sl (Kd.int .i64) (some ⟨g8732, 0, none⟩) 1 l8733 :: rs) := hS.re [] [] rfl (sub_cons 0 rfl sub_self)
  obtain ⟨t8734, t8735, hc8741, H⟩ := b2_out H
  refine EL.of (EO.callD 11 [.slice (some ⟨g8732, 0, none⟩) l8733.length 1] _ 11 (by kernel_rfl) (by kernel_rfl) (by kernel_rfl) (future_New.calls hc8741 hS) ?_)
  rintro v w ⟨g8736, A8737, C8738, A8739, C8740, rfl, hS⟩
  refine EL.quick 1 [1] [(1, .pointer (some ⟨g8736, 0, none⟩))] (by kernel_rfl) ?_
  refine EL.done (by kernel_rfl) ?_
  refine EQ.code ?_
  refine EW.seq (x := Cd10.r.r.l) (y := Cd10.r.r.r) (by kernel_rfl) ?_
  refine EW.region (id := 2) (ops := Cd10.r.r.l.ops) (by kernel_rfl) ?_
  obtain ⟨t8747, hc8751, H⟩ := b1_out H
  refine EL.of (EO.callD 12 [] _ 12 (by kernel_rfl) (by kernel_rfl) (by kernel_rfl) (park_New.calls hc8751 hS) ?_)
  rintro v w ⟨g8748, A8749, C8750, rfl, hS⟩
  refine EL.quick 1 [1, 2] [(1, .pointer (some ⟨g8736, 0, none⟩)), (2, .pointer (some ⟨g8748, 0, none⟩))] (by kernel_rfl) ?_
  refine EL.done (by kernel_rfl) ?_
  refine EQ.code ?_
  refine EW.seq (x := Cd10.r.r.r.l) (y := Cd10.r.r.r.r) (by kernel_rfl) ?_
  refine EW.seq (x := Cd10.r.r.r.l.l) (y := Cd10.r.r.r.l.r) (by kernel_rfl) ?_
  refine EW.region (id := 3) (ops := Cd10.r.r.r.l.l.ops) (by kernel_rfl) ?_
  refine EL.quick 6 [1, 2, 18] [(1, .pointer (some ⟨g8736, 0, none⟩)), (2, .pointer (some ⟨g8748, 0, none⟩)), (18, .bool (false))] (by kernel_rfl) ?_
  refine EL.done (by kernel_rfl) ?_
  refine EQ.code ?_
  refine EW.condF (o := (.tmp 18)) (x := Cd10.r.r.r.l.r.l) (y := Cd10.r.r.r.l.r.r) (by kernel_rfl) (by kernel_rfl) ?_
  refine EW.skip (by kernel_rfl) ?_
  refine EQ.code ?_
  refine EW.seq (x := Cd10.r.r.r.r.l) (y := Cd10.r.r.r.r.r) (by kernel_rfl) ?_
  refine EW.region (id := 5) (ops := Cd10.r.r.r.r.l.ops) (by kernel_rfl) ?_
  refine EL.quick 1 [1, 2, 20] [(1, .pointer (some ⟨g8736, 0, none⟩)), (2, .pointer (some ⟨g8748, 0, none⟩)), (20, .pointer (some ⟨g8736, 0, none⟩))] (by kernel_rfl) ?_
  have hS : St B _ (Ass.box 91 g8736 [.slice A8737 t8734.length C8738, .slice A8739 t8735.length C8740] :: Ass.deep 94 96 kS96 A8737 C8738 t8734 :: Ass.own 3 (Kd.int .i64) A8739 C8740 t8735 :: Ass.box 93 g8748 [.slice A8749 t8747.length C8750] :: Ass.own 60 kS60 A8749 C8750 t8747 :: os) (Ro.sl (Kd.int .i64) (some ⟨g8732, 0, none⟩) 1 l8733 :: Ro.sl (Kd.int .i64) (some ⟨g8732, 0, none⟩) 1 l8733 :: rs) := hS.re [4, 4, 4] [] rfl sub_self
  obtain ⟨t8758, t8759, t8760, hc8763, H⟩ := b3_out H
  refine EL.of (EO.callD 13 [.pointer (some ⟨g8736, 0, none⟩), .int .i64 0, .int .i64 0] _ 21 (by kernel_rfl) (by kernel_rfl) (by kernel_rfl) (future_Futures_Make.calls hc8763 hS) ?_)
  rintro v w ⟨A8761, C8762, rfl, hS⟩
  refine EL.quick 5 [1, 2, 3] [(1, .pointer (some ⟨g8736, 0, none⟩)), (2, .pointer (some ⟨g8748, 0, none⟩)), (3, .int .i32 t8759)] (by kernel_rfl) ?_
  refine EL.done (by kernel_rfl) ?_
  refine EQ.code ?_
  refine EW.seq (x := Cd10.r.r.r.r.r.l) (y := Cd10.r.r.r.r.r.r) (by kernel_rfl) ?_
  refine EW.region (id := 6) (ops := Cd10.r.r.r.r.r.l.ops) (by kernel_rfl) ?_
  refine EL.quick 1 [1, 2, 3, 25] [(1, .pointer (some ⟨g8736, 0, none⟩)), (2, .pointer (some ⟨g8748, 0, none⟩)), (3, .int .i32 t8759), (25, .pointer (some ⟨g8736, 0, none⟩))] (by kernel_rfl) ?_
  obtain ⟨t8770, t8771, t8772, hc8775, H⟩ := b3_out H
  refine EL.of (EO.callD 13 [.pointer (some ⟨g8736, 0, none⟩), .int .i64 0, .int .i64 0] _ 26 (by kernel_rfl) (by kernel_rfl) (by kernel_rfl) (future_Futures_Make.calls hc8775 hS) ?_)
  rintro v w ⟨A8773, C8774, rfl, hS⟩
  refine EL.quick 5 [1, 2, 3, 5] [(1, .pointer (some ⟨g8736, 0, none⟩)), (2, .pointer (some ⟨g8748, 0, none⟩)), (3, .int .i32 t8759), (5, .int .i32 t8771)] (by kernel_rfl) ?_
  refine EL.done (by kernel_rfl) ?_
  refine EQ.code ?_
  refine EW.seq (x := Cd10.r.r.r.r.r.r.l) (y := Cd10.r.r.r.r.r.r.r) (by kernel_rfl) ?_
  refine EW.region (id := 7) (ops := Cd10.r.r.r.r.r.r.l.ops) (by kernel_rfl) ?_
  refine EL.quick 2 [1, 2, 3, 5, 29, 30] [(1, .pointer (some ⟨g8736, 0, none⟩)), (2, .pointer (some ⟨g8748, 0, none⟩)), (3, .int .i32 t8759), (5, .int .i32 t8771), (29, .pointer (some ⟨g8736, 0, none⟩)), (30, .int .i32 t8759)] (by kernel_rfl) ?_
  obtain ⟨t8781, t8782, hc8785, H⟩ := b2_out H
  refine EL.of (EO.callD 14 [.pointer (some ⟨g8736, 0, none⟩), .int .i32 t8759, .int .i32 1] _ 31 (by kernel_rfl) (by kernel_rfl) (by kernel_rfl) (future_Futures_Keep.calls hc8785 hS) ?_)
  rintro v w ⟨A8783, C8784, rfl, hS⟩
  refine EL.done (by kernel_rfl) ?_
  refine EQ.code ?_
  refine EW.seq (x := Cd10.r.r.r.r.r.r.r.l) (y := Cd10.r.r.r.r.r.r.r.r) (by kernel_rfl) ?_
  refine EW.region (id := 8) (ops := Cd10.r.r.r.r.r.r.r.l.ops) (by kernel_rfl) ?_
  refine EL.quick 3 [1, 2, 5, 32, 33, 34] [(1, .pointer (some ⟨g8736, 0, none⟩)), (2, .pointer (some ⟨g8748, 0, none⟩)), (5, .int .i32 t8771), (32, .pointer (some ⟨g8748, 0, none⟩)), (33, .agg #[.int .i32 5, .int .i64 0, .int .i64 0, .slice none ([] : List Int).length 0, .int .i32 0, .int .i32 0, .int .i32 0, .int .i32 0, .int .i64 0, .int .i64 0, .int .u32 0, .int .i64 0]), (34, .int .i32 t8759)] (by kernel_rfl) ?_
  have hS := St.nilR hS (Kd.int .i32)
  have hS : St B _ (Ass.box 93 g8748 [.slice A8749 t8747.length C8750] :: Ass.own 60 kS60 A8749 C8750 t8747 :: Ass.box 91 g8736 [.slice A8783 t8781.length C8784, .slice A8739 t8735.length C8740] :: Ass.deep 94 96 kS96 A8783 C8784 t8781 :: Ass.own 3 (Kd.int .i64) A8739 C8740 t8735 :: os) (Ro.sl (Kd.int .i32) none 0 ([] : List Int) :: Ro.sl (Kd.int .i32) none 0 ([] : List Int) :: Ro.sl (Kd.int .i64) (some ⟨g8732, 0, none⟩) 1 l8733 :: Ro.sl (Kd.int .i64) (some ⟨g8732, 0, none⟩) 1 l8733 :: rs) := hS.re [4, 4] [] rfl (sub_cons 0 rfl sub_self)
  obtain ⟨t8790, hc8793, H⟩ := b1_out H
  refine EL.of (EO.callD 15 [.pointer (some ⟨g8748, 0, none⟩), .agg #[.int .i32 5, .int .i64 0, .int .i64 0, .slice none ([] : List Int).length 0, .int .i32 0, .int .i32 0, .int .i32 0, .int .i32 0, .int .i64 0, .int .i64 0, .int .u32 0, .int .i64 0], .int .i32 t8759] _ 35 (by kernel_rfl) (by kernel_rfl) (by kernel_rfl) (park_Park_Add.calls hc8793 hS) ?_)
  rintro v w ⟨A8791, C8792, rfl, hS⟩
  refine EL.done (by kernel_rfl) ?_
  refine EQ.code ?_
  refine EW.seq (x := Cd10.r.r.r.r.r.r.r.r.l) (y := Cd10.r.r.r.r.r.r.r.r.r) (by kernel_rfl) ?_
  refine EW.region (id := 9) (ops := Cd10.r.r.r.r.r.r.r.r.l.ops) (by kernel_rfl) ?_
  refine EL.quick 3 [1, 2, 5, 36, 37, 38] [(1, .pointer (some ⟨g8736, 0, none⟩)), (2, .pointer (some ⟨g8748, 0, none⟩)), (5, .int .i32 t8771), (36, .pointer (some ⟨g8748, 0, none⟩)), (37, .agg #[.int .i32 6, .int .i64 0, .int .i64 0, .slice none ([] : List Int).length 0, .int .i32 0, .int .i32 0, .int .i32 0, .int .i32 0, .int .i64 0, .int .i64 0, .int .u32 0, .int .i64 0]), (38, .int .i32 t8771)] (by kernel_rfl) ?_
  have hS : St B _ (Ass.box 93 g8748 [.slice A8791 t8790.length C8792] :: Ass.own 60 kS60 A8791 C8792 t8790 :: Ass.box 91 g8736 [.slice A8783 t8781.length C8784, .slice A8739 t8735.length C8740] :: Ass.deep 94 96 kS96 A8783 C8784 t8781 :: Ass.own 3 (Kd.int .i64) A8739 C8740 t8735 :: os) (Ro.sl (Kd.int .i32) none 0 ([] : List Int) :: Ro.sl (Kd.int .i32) none 0 ([] : List Int) :: Ro.sl (Kd.int .i32) none 0 ([] : List Int) :: Ro.sl (Kd.int .i64) (some ⟨g8732, 0, none⟩) 1 l8733 :: Ro.sl (Kd.int .i64) (some ⟨g8732, 0, none⟩) 1 l8733 :: rs) := hS.re [1, 1] [] rfl (sub_cons 0 rfl sub_self)
  obtain ⟨t8798, hc8801, H⟩ := b1_out H
  refine EL.of (EO.callD 15 [.pointer (some ⟨g8748, 0, none⟩), .agg #[.int .i32 6, .int .i64 0, .int .i64 0, .slice none ([] : List Int).length 0, .int .i32 0, .int .i32 0, .int .i32 0, .int .i32 0, .int .i64 0, .int .i64 0, .int .u32 0, .int .i64 0], .int .i32 t8771] _ 39 (by kernel_rfl) (by kernel_rfl) (by kernel_rfl) (park_Park_Add.calls hc8801 hS) ?_)
  rintro v w ⟨A8799, C8800, rfl, hS⟩
  refine EL.done (by kernel_rfl) ?_
  refine EQ.code ?_
  refine EW.seq (x := Cd10.r.r.r.r.r.r.r.r.r.l) (y := Cd10.r.r.r.r.r.r.r.r.r.r) (by kernel_rfl) ?_
  refine EW.region (id := 10) (ops := Cd10.r.r.r.r.r.r.r.r.r.l.ops) (by kernel_rfl) ?_
  refine EL.quick 3 [1, 2, 5, 40, 41, 42] [(1, .pointer (some ⟨g8736, 0, none⟩)), (2, .pointer (some ⟨g8748, 0, none⟩)), (5, .int .i32 t8771), (40, .pointer (some ⟨g8748, 0, none⟩)), (41, .agg #[.int .i32 7, .int .i64 0, .int .i64 0, .slice none ([] : List Int).length 0, .int .i32 0, .int .i32 0, .int .i32 0, .int .i32 0, .int .i64 0, .int .i64 0, .int .u32 0, .int .i64 0]), (42, .int .i32 t8771)] (by kernel_rfl) ?_
  have hS : St B _ (Ass.box 93 g8748 [.slice A8799 t8798.length C8800] :: Ass.own 60 kS60 A8799 C8800 t8798 :: Ass.box 91 g8736 [.slice A8783 t8781.length C8784, .slice A8739 t8735.length C8740] :: Ass.deep 94 96 kS96 A8783 C8784 t8781 :: Ass.own 3 (Kd.int .i64) A8739 C8740 t8735 :: os) (Ro.sl (Kd.int .i32) none 0 ([] : List Int) :: Ro.sl (Kd.int .i32) none 0 ([] : List Int) :: Ro.sl (Kd.int .i32) none 0 ([] : List Int) :: Ro.sl (Kd.int .i32) none 0 ([] : List Int) :: Ro.sl (Kd.int .i64) (some ⟨g8732, 0, none⟩) 1 l8733 :: Ro.sl (Kd.int .i64) (some ⟨g8732, 0, none⟩) 1 l8733 :: rs) := hS.re [1, 1] [] rfl (sub_cons 0 rfl sub_self)
  obtain ⟨t8806, hc8809, H⟩ := b1_out H
  refine EL.of (EO.callD 15 [.pointer (some ⟨g8748, 0, none⟩), .agg #[.int .i32 7, .int .i64 0, .int .i64 0, .slice none ([] : List Int).length 0, .int .i32 0, .int .i32 0, .int .i32 0, .int .i32 0, .int .i64 0, .int .i64 0, .int .u32 0, .int .i64 0], .int .i32 t8771] _ 43 (by kernel_rfl) (by kernel_rfl) (by kernel_rfl) (park_Park_Add.calls hc8809 hS) ?_)
  rintro v w ⟨A8807, C8808, rfl, hS⟩
  refine EL.done (by kernel_rfl) ?_
  refine EQ.code ?_
  refine EW.seq (x := Cd10.r.r.r.r.r.r.r.r.r.r.l) (y := Cd10.r.r.r.r.r.r.r.r.r.r.r) (by kernel_rfl) ?_
  refine EW.region (id := 11) (ops := Cd10.r.r.r.r.r.r.r.r.r.r.l.ops) (by kernel_rfl) ?_
  refine EL.quick 2 [2, 5, 45, 46] [(2, .pointer (some ⟨g8748, 0, none⟩)), (5, .int .i32 t8771), (45, .pointer (some ⟨g8748, 0, none⟩)), (46, .pointer (some ⟨g8736, 0, none⟩))] (by kernel_rfl) ?_
  obtain ⟨t8821, t8822, t8823, t8824, hc8831, H⟩ := b4_out H
  refine EL.of (EO.callD 16 [.pointer (some ⟨g8748, 0, none⟩), .pointer (some ⟨g8736, 0, none⟩), .int .i64 2] _ 47 (by kernel_rfl) (by kernel_rfl) (by kernel_rfl) (park_Park_Look.calls hc8831 hS) ?_)
  rintro v w ⟨A8825, C8826, A8827, C8828, A8829, C8830, rfl, hS⟩
  refine EL.quick 7 [2, 5, 7, 8, 9] [(2, .pointer (some ⟨g8748, 0, none⟩)), (5, .int .i32 t8771), (7, .slice A8827 t8822.length C8828), (8, .slice A8829 t8823.length C8830), (9, .int .i64 t8824)] (by kernel_rfl) ?_
  refine EL.done (by kernel_rfl) ?_
  refine EQ.code ?_
  refine EW.seq (x := Cd10.r.r.r.r.r.r.r.r.r.r.r.l) (y := Cd10.r.r.r.r.r.r.r.r.r.r.r.r) (by kernel_rfl) ?_
  refine EW.region (id := 12) (ops := Cd10.r.r.r.r.r.r.r.r.r.r.r.l.ops) (by kernel_rfl) ?_
  refine EL.quick 4 [2, 5, 7, 8, 9, 54] [(2, .pointer (some ⟨g8748, 0, none⟩)), (5, .int .i32 t8771), (7, .slice A8827 t8822.length C8828), (8, .slice A8829 t8823.length C8830), (9, .int .i64 t8824), (54, .bool (decide ((t8822.length : Int) = 1)))] (by kernel_rfl) ?_
  by_cases h8832 : (t8822.length : Int) = 1
  · rw [if_pos h8832] at H
    refine EL.keep [2, 5, 7, 8, 9, 54] [(2, .pointer (some ⟨g8748, 0, none⟩)), (5, .int .i32 t8771), (7, .slice A8827 t8822.length C8828), (8, .slice A8829 t8823.length C8830), (9, .int .i64 t8824), (54, .bool (decide ((t8822.length : Int) = 1)))] (by kernel_rfl) ?_
    refine EL.as' [(2, .pointer (some ⟨g8748, 0, none⟩)), (5, .int .i32 t8771), (7, .slice A8827 t8822.length C8828), (8, .slice A8829 t8823.length C8830), (9, .int .i64 t8824), (54, .bool (true))] (by simp only [dec_t h8832, Bool.not_true, Bool.not_false]) ?_
    refine EL.quick 1 [2, 5, 8, 9, 54, 55] [(2, .pointer (some ⟨g8748, 0, none⟩)), (5, .int .i32 t8771), (8, .slice A8829 t8823.length C8830), (9, .int .i64 t8824), (54, .bool (true)), (55, .slice A8827 t8822.length C8828)] (by kernel_rfl) ?_
    obtain ⟨h8833, H⟩ := ite_in H
    obtain ⟨ad8834, rfl⟩ := St.rd_some hS (Rd.own 6 36 rfl) (by decide) h8833
    refine EL.of (EO.Y (YO.idx 37 12 ad8834 t8822.length C8828 .i64 0 56 (by kernel_rfl) (by kernel_rfl) (by kernel_rfl) (by kernel_rfl) (by decide) h8833) ?_)
    refine EL.quick 1 [2, 5, 8, 9, 54, 57] [(2, .pointer (some ⟨g8748, 0, none⟩)), (5, .int .i32 t8771), (8, .slice A8829 t8823.length C8830), (9, .int .i64 t8824), (54, .bool (true)), (57, .pointer (some ((ad8834.add ((0 : Int).toNat * 12)).add 0)))] (by kernel_rfl) ?_
    refine EL.of (EO.loadPt hS kS36 ad8834 C8828 t8822 (Rd.own 6 36 rfl) zS36 cellsS36 factsS36 partsS36 0 (by decide) h8833 21 12 0 1 rfl (fun b8835 => .int .i32 ((t8822.getD (0 : Int).toNat zS36).f0)) 58 (by kernel_rfl) (by kernel_rfl) (by kernel_rfl) (fun b8835 => (by kernel_rfl)) ?_)
    intro b8835 hS
    refine EL.quick 3 [2, 5, 8, 9, 61] [(2, .pointer (some ⟨g8748, 0, none⟩)), (5, .int .i32 t8771), (8, .slice A8829 t8823.length C8830), (9, .int .i64 t8824), (61, .bool (decide (((t8822.getD (0 : Int).toNat zS36).f0) = 5)))] (by kernel_rfl) ?_
    by_cases h8836 : ((t8822.getD (0 : Int).toNat zS36).f0) = 5
    · rw [if_pos h8836] at H
      refine EL.keep [2, 5, 8, 9, 61] [(2, .pointer (some ⟨g8748, 0, none⟩)), (5, .int .i32 t8771), (8, .slice A8829 t8823.length C8830), (9, .int .i64 t8824), (61, .bool (decide (((t8822.getD (0 : Int).toNat zS36).f0) = 5)))] (by kernel_rfl) ?_
      refine EL.as' [(2, .pointer (some ⟨g8748, 0, none⟩)), (5, .int .i32 t8771), (8, .slice A8829 t8823.length C8830), (9, .int .i64 t8824), (61, .bool (true))] (by simp only [dec_t h8836, Bool.not_true, Bool.not_false]) ?_
      refine EL.quick 5 [2, 5, 8, 9, 66] [(2, .pointer (some ⟨g8748, 0, none⟩)), (5, .int .i32 t8771), (8, .slice A8829 t8823.length C8830), (9, .int .i64 t8824), (66, .bool (decide ((t8823.length : Int) = 1)))] (by kernel_rfl) ?_
      by_cases h8837 : (t8823.length : Int) = 1
      · rw [if_pos h8837] at H
        refine EL.keep [2, 5, 8, 9, 66] [(2, .pointer (some ⟨g8748, 0, none⟩)), (5, .int .i32 t8771), (8, .slice A8829 t8823.length C8830), (9, .int .i64 t8824), (66, .bool (decide ((t8823.length : Int) = 1)))] (by kernel_rfl) ?_
        refine EL.as' [(2, .pointer (some ⟨g8748, 0, none⟩)), (5, .int .i32 t8771), (8, .slice A8829 t8823.length C8830), (9, .int .i64 t8824), (66, .bool (true))] (by simp only [dec_t h8837, Bool.not_true, Bool.not_false]) ?_
        refine EL.quick 1 [2, 5, 9, 66, 67] [(2, .pointer (some ⟨g8748, 0, none⟩)), (5, .int .i32 t8771), (9, .int .i64 t8824), (66, .bool (true)), (67, .slice A8829 t8823.length C8830)] (by kernel_rfl) ?_
        obtain ⟨h8838, H⟩ := ite_in H
        obtain ⟨ad8839, rfl⟩ := St.rd_some hS (Rd.own 7 36 rfl) (by decide) h8838
        refine EL.of (EO.Y (YO.idx 37 12 ad8839 t8823.length C8830 .i64 0 68 (by kernel_rfl) (by kernel_rfl) (by kernel_rfl) (by kernel_rfl) (by decide) h8838) ?_)
        refine EL.quick 1 [2, 5, 9, 66, 69] [(2, .pointer (some ⟨g8748, 0, none⟩)), (5, .int .i32 t8771), (9, .int .i64 t8824), (66, .bool (true)), (69, .pointer (some ((ad8839.add ((0 : Int).toNat * 12)).add 0)))] (by kernel_rfl) ?_
        refine EL.of (EO.loadPt hS kS36 ad8839 C8830 t8823 (Rd.own 7 36 rfl) zS36 cellsS36 factsS36 partsS36 0 (by decide) h8838 21 12 0 1 rfl (fun b8840 => .int .i32 ((t8823.getD (0 : Int).toNat zS36).f0)) 70 (by kernel_rfl) (by kernel_rfl) (by kernel_rfl) (fun b8840 => (by kernel_rfl)) ?_)
        intro b8840 hS
        refine EL.quick 3 [2, 5, 9, 73] [(2, .pointer (some ⟨g8748, 0, none⟩)), (5, .int .i32 t8771), (9, .int .i64 t8824), (73, .bool (decide (((t8823.getD (0 : Int).toNat zS36).f0) = 7)))] (by kernel_rfl) ?_
        by_cases h8841 : ((t8823.getD (0 : Int).toNat zS36).f0) = 7
        · rw [if_pos h8841] at H
          refine EL.keep [2, 5, 9, 73] [(2, .pointer (some ⟨g8748, 0, none⟩)), (5, .int .i32 t8771), (9, .int .i64 t8824), (73, .bool (decide (((t8823.getD (0 : Int).toNat zS36).f0) = 7)))] (by kernel_rfl) ?_
          refine EL.as' [(2, .pointer (some ⟨g8748, 0, none⟩)), (5, .int .i32 t8771), (9, .int .i64 t8824), (73, .bool (true))] (by simp only [dec_t h8841, Bool.not_true, Bool.not_false]) ?_
          refine EL.quick 4 [2, 5, 77] [(2, .pointer (some ⟨g8748, 0, none⟩)), (5, .int .i32 t8771), (77, .bool (decide (t8824 = 0)))] (by kernel_rfl) ?_
          by_cases h8842 : t8824 = 0
          · rw [if_pos h8842] at H
            refine EL.keep [2, 5, 77] [(2, .pointer (some ⟨g8748, 0, none⟩)), (5, .int .i32 t8771), (77, .bool (decide (t8824 = 0)))] (by kernel_rfl) ?_
            refine EL.as' [(2, .pointer (some ⟨g8748, 0, none⟩)), (5, .int .i32 t8771), (77, .bool (true))] (by simp only [dec_t h8842, Bool.not_true, Bool.not_false]) ?_
            refine EL.quick 1 [2, 5, 77, 78] [(2, .pointer (some ⟨g8748, 0, none⟩)), (5, .int .i32 t8771), (77, .bool (true)), (78, .pointer (some ⟨g8748, 0, none⟩))] (by kernel_rfl) ?_
            have hS : St B _ (Ass.box 93 g8748 [.slice A8825 t8821.length C8826] :: Ass.own 60 kS60 A8825 C8826 t8821 :: Ass.own 60 kS60 A8807 C8808 t8806 :: Ass.box 91 g8736 [.slice A8783 t8781.length C8784, .slice A8739 t8735.length C8740] :: Ass.deep 94 96 kS96 A8783 C8784 t8781 :: Ass.own 3 (Kd.int .i64) A8739 C8740 t8735 :: Ass.own 36 kS36 (some ad8834) C8828 t8822 :: Ass.own 36 kS36 (some ad8839) C8830 t8823 :: os) (Ro.sl (Kd.int .i32) b8840.1 b8840.2 ((t8823.getD (0 : Int).toNat zS36).f3) :: Ro.sl (Kd.int .i32) b8835.1 b8835.2 ((t8822.getD (0 : Int).toNat zS36).f3) :: Ro.sl (Kd.int .i32) none 0 ([] : List Int) :: Ro.sl (Kd.int .i32) none 0 ([] : List Int) :: Ro.sl (Kd.int .i32) none 0 ([] : List Int) :: Ro.sl (Kd.int .i32) none 0 ([] : List Int) :: Ro.sl (Kd.int .i64) (some ⟨g8732, 0, none⟩) 1 l8733 :: Ro.sl (Kd.int .i64) (some ⟨g8732, 0, none⟩) 1 l8733 :: rs) := hS.re [5, 1] [] rfl sub_self
            obtain ⟨t8843, hc8844, H⟩ := b1_out H
            refine EL.of (EO.callD 17 [.pointer (some ⟨g8748, 0, none⟩)] _ 79 (by kernel_rfl) (by kernel_rfl) (by kernel_rfl) (park_Park_Len.calls hc8844 hS) ?_)
            rintro v w ⟨rfl, hS⟩
            refine EL.quick 3 [2, 5, 82] [(2, .pointer (some ⟨g8748, 0, none⟩)), (5, .int .i32 t8771), (82, .bool (decide (t8843 = 1)))] (by kernel_rfl) ?_
            by_cases h8845 : t8843 = 1
            · rw [if_pos h8845] at H
              refine EL.keep [2, 5, 82] [(2, .pointer (some ⟨g8748, 0, none⟩)), (5, .int .i32 t8771), (82, .bool (decide (t8843 = 1)))] (by kernel_rfl) ?_
              refine EL.as' [(2, .pointer (some ⟨g8748, 0, none⟩)), (5, .int .i32 t8771), (82, .bool (true))] (by simp only [dec_t h8845, Bool.not_true, Bool.not_false]) ?_
              refine EL.quick 1 [2, 5, 82, 83] [(2, .pointer (some ⟨g8748, 0, none⟩)), (5, .int .i32 t8771), (82, .bool (true)), (83, .pointer (some ⟨g8748, 0, none⟩))] (by kernel_rfl) ?_
              obtain ⟨t8846, hc8849, H⟩ := b1_out H
              refine EL.of (EO.callD 25 [.pointer (some ⟨g8748, 0, none⟩)] _ 84 (by kernel_rfl) (by kernel_rfl) (by kernel_rfl) (park_Park_All.calls hc8849 hS) ?_)
              rintro v w ⟨A8847, C8848, rfl, hS⟩
              refine EL.quick 4 [2, 5, 88] [(2, .pointer (some ⟨g8748, 0, none⟩)), (5, .int .i32 t8771), (88, .bool (decide ((t8846.length : Int) = 1)))] (by kernel_rfl) ?_
              by_cases h8850 : (t8846.length : Int) = 1
              · rw [if_pos h8850] at H
                refine EL.keep [2, 5, 88] [(2, .pointer (some ⟨g8748, 0, none⟩)), (5, .int .i32 t8771), (88, .bool (decide ((t8846.length : Int) = 1)))] (by kernel_rfl) ?_
                refine EL.as' [(2, .pointer (some ⟨g8748, 0, none⟩)), (5, .int .i32 t8771), (88, .bool (true))] (by simp only [dec_t h8850, Bool.not_true, Bool.not_false]) ?_
                refine EL.quick 1 [5, 88, 89] [(5, .int .i32 t8771), (88, .bool (true)), (89, .pointer (some ⟨g8748, 0, none⟩))] (by kernel_rfl) ?_
                obtain ⟨t8851, hc8854, H⟩ := b1_out H
                refine EL.of (EO.callD 25 [.pointer (some ⟨g8748, 0, none⟩)] _ 90 (by kernel_rfl) (by kernel_rfl) (by kernel_rfl) (park_Park_All.calls hc8854 hS) ?_)
                rintro v w ⟨A8852, C8853, rfl, hS⟩
                obtain ⟨h8855, H⟩ := ite_in H
                obtain ⟨ad8856, rfl⟩ := St.rd_some hS (Rd.own 2 60 rfl) (by decide) h8855
                refine EL.of (EO.Y (YO.idx 58 13 ad8856 t8851.length C8853 .i64 0 91 (by kernel_rfl) (by kernel_rfl) (by kernel_rfl) (by kernel_rfl) (by decide) h8855) ?_)
                refine EL.quick 1 [5, 88, 92] [(5, .int .i32 t8771), (88, .bool (true)), (92, .pointer (some ((ad8856.add ((0 : Int).toNat * 13)).add 12)))] (by kernel_rfl) ?_
                refine EL.of (EO.loadPt hS kS60 ad8856 C8853 t8851 (Rd.own 2 60 rfl) zS60 cellsS60 factsS60 partsS60 0 (by decide) h8855 21 13 12 1 rfl (fun b8857 => .int .i32 ((t8851.getD (0 : Int).toNat zS60).f1)) 93 (by kernel_rfl) (by kernel_rfl) (by kernel_rfl) (fun b8857 => (by kernel_rfl)) ?_)
                intro b8857 hS
                refine EL.quick 4 [0] [(0, .bool (decide (((t8851.getD (0 : Int).toNat zS60).f1) = t8771)))] (by kernel_rfl) ?_
                refine EL.done (by kernel_rfl) ?_
                refine EQ.code ?_
                refine EW.ret (by kernel_rfl) ?_
                obtain rfl := Option.some.inj H
                exact EQ.leave (.bool (decide (((t8851.getD (0 : Int).toNat zS60).f1) = t8771))) (by kernel_rfl) ⟨_, rfl, rfl, (hS.re [] [0, 0, 0, 0, 0, 0, 0, 0, 0, 0] rfl (sub_tail (sub_tail (sub_tail (sub_tail (sub_tail (sub_tail (sub_tail (sub_tail (sub_tail (sub_self)))))))))))⟩
              · rw [if_neg h8850] at H
                refine EL.keep [2, 5, 88] [(2, .pointer (some ⟨g8748, 0, none⟩)), (5, .int .i32 t8771), (88, .bool (decide ((t8846.length : Int) = 1)))] (by kernel_rfl) ?_
                refine EL.as' [(2, .pointer (some ⟨g8748, 0, none⟩)), (5, .int .i32 t8771), (88, .bool (false))] (by simp only [dec_f h8850, Bool.not_true, Bool.not_false]) ?_
                refine EL.quick 9 [0] [(0, .bool (false))] (by kernel_rfl) ?_
                refine EL.done (by kernel_rfl) ?_
                refine EQ.code ?_
                refine EW.ret (by kernel_rfl) ?_
                obtain rfl := Option.some.inj H
                exact EQ.leave (.bool (false)) (by kernel_rfl) ⟨_, rfl, rfl, (hS.re [] [0, 0, 0, 0, 0, 0, 0, 0, 0] rfl (sub_tail (sub_tail (sub_tail (sub_tail (sub_tail (sub_tail (sub_tail (sub_tail (sub_self))))))))))⟩
            · rw [if_neg h8845] at H
              refine EL.keep [2, 5, 82] [(2, .pointer (some ⟨g8748, 0, none⟩)), (5, .int .i32 t8771), (82, .bool (decide (t8843 = 1)))] (by kernel_rfl) ?_
              refine EL.as' [(2, .pointer (some ⟨g8748, 0, none⟩)), (5, .int .i32 t8771), (82, .bool (false))] (by simp only [dec_f h8845, Bool.not_true, Bool.not_false]) ?_
              refine EL.quick 15 [0] [(0, .bool (false))] (by kernel_rfl) ?_
              refine EL.done (by kernel_rfl) ?_
              refine EQ.code ?_
              refine EW.ret (by kernel_rfl) ?_
              obtain rfl := Option.some.inj H
              exact EQ.leave (.bool (false)) (by kernel_rfl) ⟨_, rfl, rfl, (hS.re [] [0, 0, 0, 0, 0, 0, 0, 0] rfl (sub_tail (sub_tail (sub_tail (sub_tail (sub_tail (sub_tail (sub_tail (sub_tail (sub_self))))))))))⟩
          · rw [if_neg h8842] at H
            refine EL.keep [2, 5, 77] [(2, .pointer (some ⟨g8748, 0, none⟩)), (5, .int .i32 t8771), (77, .bool (decide (t8824 = 0)))] (by kernel_rfl) ?_
            refine EL.as' [(2, .pointer (some ⟨g8748, 0, none⟩)), (5, .int .i32 t8771), (77, .bool (false))] (by simp only [dec_f h8842, Bool.not_true, Bool.not_false]) ?_
            refine EL.quick 20 [0] [(0, .bool (false))] (by kernel_rfl) ?_
            refine EL.done (by kernel_rfl) ?_
            refine EQ.code ?_
            refine EW.ret (by kernel_rfl) ?_
            obtain rfl := Option.some.inj H
            exact EQ.leave (.bool (false)) (by kernel_rfl) ⟨_, rfl, rfl, (hS.re [] [0, 0, 0, 0, 0, 0, 0, 0] rfl (sub_tail (sub_tail (sub_tail (sub_tail (sub_tail (sub_tail (sub_tail (sub_tail (sub_self))))))))))⟩
        · rw [if_neg h8841] at H
          refine EL.keep [2, 5, 9, 73] [(2, .pointer (some ⟨g8748, 0, none⟩)), (5, .int .i32 t8771), (9, .int .i64 t8824), (73, .bool (decide (((t8823.getD (0 : Int).toNat zS36).f0) = 7)))] (by kernel_rfl) ?_
          refine EL.as' [(2, .pointer (some ⟨g8748, 0, none⟩)), (5, .int .i32 t8771), (9, .int .i64 t8824), (73, .bool (false))] (by simp only [dec_f h8841, Bool.not_true, Bool.not_false]) ?_
          refine EL.quick 24 [0] [(0, .bool (false))] (by kernel_rfl) ?_
          refine EL.done (by kernel_rfl) ?_
          refine EQ.code ?_
          refine EW.ret (by kernel_rfl) ?_
          obtain rfl := Option.some.inj H
          exact EQ.leave (.bool (false)) (by kernel_rfl) ⟨_, rfl, rfl, (hS.re [] [0, 0, 0, 0, 0, 0, 0, 0] rfl (sub_tail (sub_tail (sub_tail (sub_tail (sub_tail (sub_tail (sub_tail (sub_tail (sub_self))))))))))⟩
      · rw [if_neg h8837] at H
        refine EL.keep [2, 5, 8, 9, 66] [(2, .pointer (some ⟨g8748, 0, none⟩)), (5, .int .i32 t8771), (8, .slice A8829 t8823.length C8830), (9, .int .i64 t8824), (66, .bool (decide ((t8823.length : Int) = 1)))] (by kernel_rfl) ?_
        refine EL.as' [(2, .pointer (some ⟨g8748, 0, none⟩)), (5, .int .i32 t8771), (8, .slice A8829 t8823.length C8830), (9, .int .i64 t8824), (66, .bool (false))] (by simp only [dec_f h8837, Bool.not_true, Bool.not_false]) ?_
        refine EL.quick 31 [0] [(0, .bool (false))] (by kernel_rfl) ?_
        refine EL.done (by kernel_rfl) ?_
        refine EQ.code ?_
        refine EW.ret (by kernel_rfl) ?_
        obtain rfl := Option.some.inj H
        exact EQ.leave (.bool (false)) (by kernel_rfl) ⟨_, rfl, rfl, (hS.re [] [0, 0, 0, 0, 0, 0, 0, 0] rfl (sub_tail (sub_tail (sub_tail (sub_tail (sub_tail (sub_tail (sub_tail (sub_self)))))))))⟩
    · rw [if_neg h8836] at H
      refine EL.keep [2, 5, 8, 9, 61] [(2, .pointer (some ⟨g8748, 0, none⟩)), (5, .int .i32 t8771), (8, .slice A8829 t8823.length C8830), (9, .int .i64 t8824), (61, .bool (decide (((t8822.getD (0 : Int).toNat zS36).f0) = 5)))] (by kernel_rfl) ?_
      refine EL.as' [(2, .pointer (some ⟨g8748, 0, none⟩)), (5, .int .i32 t8771), (8, .slice A8829 t8823.length C8830), (9, .int .i64 t8824), (61, .bool (false))] (by simp only [dec_f h8836, Bool.not_true, Bool.not_false]) ?_
      refine EL.quick 36 [0] [(0, .bool (false))] (by kernel_rfl) ?_
      refine EL.done (by kernel_rfl) ?_
      refine EQ.code ?_
      refine EW.ret (by kernel_rfl) ?_
      obtain rfl := Option.some.inj H
      exact EQ.leave (.bool (false)) (by kernel_rfl) ⟨_, rfl, rfl, (hS.re [] [0, 0, 0, 0, 0, 0, 0, 0] rfl (sub_tail (sub_tail (sub_tail (sub_tail (sub_tail (sub_tail (sub_tail (sub_self)))))))))⟩
  · rw [if_neg h8832] at H
    refine EL.keep [2, 5, 7, 8, 9, 54] [(2, .pointer (some ⟨g8748, 0, none⟩)), (5, .int .i32 t8771), (7, .slice A8827 t8822.length C8828), (8, .slice A8829 t8823.length C8830), (9, .int .i64 t8824), (54, .bool (decide ((t8822.length : Int) = 1)))] (by kernel_rfl) ?_
    refine EL.as' [(2, .pointer (some ⟨g8748, 0, none⟩)), (5, .int .i32 t8771), (7, .slice A8827 t8822.length C8828), (8, .slice A8829 t8823.length C8830), (9, .int .i64 t8824), (54, .bool (false))] (by simp only [dec_f h8832, Bool.not_true, Bool.not_false]) ?_
    refine EL.quick 43 [0] [(0, .bool (false))] (by kernel_rfl) ?_
    refine EL.done (by kernel_rfl) ?_
    refine EQ.code ?_
    refine EW.ret (by kernel_rfl) ?_
    obtain rfl := Option.some.inj H
    exact EQ.leave (.bool (false)) (by kernel_rfl) ⟨_, rfl, rfl, (hS.re [] [0, 0, 0, 0, 0, 0, 0, 0] rfl (sub_tail (sub_tail (sub_tail (sub_tail (sub_tail (sub_tail (sub_self))))))))⟩

end Go.Proofs.Ytipaaapbapijhaa.G
