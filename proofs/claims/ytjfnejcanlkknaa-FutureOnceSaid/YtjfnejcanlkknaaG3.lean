import Derived.Test.YtjfnejcanlkknaaProg
import Derived.Test.YtjfnejcanlkknaaFwEq
import Derived.Test.YtjfnejcanlkknaaFwOpen
import Derived.Test.YtjfnejcanlkknaaG0
import Derived.Test.YtjfnejcanlkknaaG1
import Derived.Test.YtjfnejcanlkknaaG2
namespace Go.Proofs.Ytjfnejcanlkknaa.G
open Go Go.Fw Go.RowKit Go.Proofs
set_option linter.unusedVariables false
set_option linter.unusedSimpArgs false

/-! ### (*confidant/future.Futures).Get: function 52 -/
def future_Futures_Get.f (K : Nat) (l4955 : List (List S75)) (l4959 : List Int) (a4963 : Int) : Option (S75 × Bool) := b1 (ident_Label.f K a4963) fun (t5436 : Int) => (b1 (ident_Number.f K a4963) fun (t5438 : Int) => (lt (fun (x5480 : Bool) => (if x5480 = true then (some ((⟨0, 0, 0, 0⟩ : S75), false)) else (if 0 ≤ t5436 then (if t5436 < (l4955.length : Int) then (if 0 ≤ t5438 then (if t5438 < ((l4955.getD t5436.toNat []).length : Int) then (some ((⟨((l4955.getD t5436.toNat []).getD t5438.toNat zS75).f0, ((l4955.getD t5436.toNat []).getD t5438.toNat zS75).f1, ((l4955.getD t5436.toNat []).getD t5438.toNat zS75).f2, ((l4955.getD t5436.toNat []).getD t5438.toNat zS75).f3⟩ : S75), true)) else none) else none) else none) else none))) fun j5481 => (if t5436 < 0 then (j5481 true) else (if t5436 ≥ (l4955.length : Int) then (j5481 true) else (if 0 ≤ t5436 then (if t5436 < (l4955.length : Int) then (j5481 (decide (t5438 ≥ ((l4955.getD t5436.toNat []).length : Int)))) else none) else none)))))
set_option maxRecDepth 100000 in
theorem future_Futures_Get.calls {K : Nat} {l4955 : List (List S75)} {l4959 : List Int} {a4963 : Int} {g4954 : Nat} {A4956 : Option Addr} {C4957 : Nat} {A4960 : Option Addr} {C4961 : Nat} {x5230 : S75} {x5231 : Bool} {B w : World} {os : List Ass} {rs : List Ro} (H : future_Futures_Get.f K l4955 l4959 a4963 = some (x5230, x5231)) (hS : St B w (Ass.box 99 g4954 [.slice A4956 l4955.length C4957, .slice A4960 l4959.length C4961] :: Ass.deep 87 75 kS75 A4956 C4957 l4955 :: Ass.own 3 (Kd.int .i64) A4960 C4961 l4959 :: os) (rs)) :
    Calls Try.prog 52 [.pointer (some ⟨g4954, 0, none⟩), .int .i32 a4963].toArray w (fun en w' => ∃ v, en = .returned v ∧ v = .tuple #[.agg #[.int .i64 x5230.f0, .int .i64 x5230.f1, .int .i32 x5230.f2, .int .i64 x5230.f3], .bool (x5231)] ∧ St B w' (Ass.box 99 g4954 [.slice A4956 l4955.length C4957, .slice A4960 l4959.length C4961] :: Ass.deep 87 75 kS75 A4956 C4957 l4955 :: Ass.own 3 (Kd.int .i64) A4960 C4961 l4959 :: os) (rs)) := by
  unfold future_Futures_Get.f at H
  refine calls_of_EW (args := [.pointer (some ⟨g4954, 0, none⟩), .int .i32 a4963]) (c := Cd52) 16 Try.func52 (by kernel_rfl) (by kernel_rfl) (by kernel_rfl) ?_
  refine EW.seq (x := Cd52.l) (y := Cd52.r) (by kernel_rfl) ?_
  refine EW.region (id := 0) (ops := Cd52.l.ops) (by kernel_rfl) ?_
  refine EL.of (EO.alloc hS 75 (.agg #[.int .i64 0, .int .i64 0, .int .i32 0, .int .i64 0]) [.int .i64 0, .int .i64 0, .int .i32 0, .int .i64 0] 4 (by kernel_rfl) (by kernel_rfl) (by kernel_rfl) (by kernel_rfl) (by first | rfl | kernel_rfl) ?_)
  intro g5233 w hS
  refine EL.quick 1 [0, 1, 4] [(0, .pointer (some ⟨g4954, 0, none⟩)), (1, .int .i32 a4963), (4, .pointer (some ⟨g5233, 0, none⟩))] (by kernel_rfl) ?_
  refine EL.done (by kernel_rfl) ?_
  refine EQ.code ?_
  refine EW.seq (x := Cd52.r.l) (y := Cd52.r.r) (by kernel_rfl) ?_
  refine EW.region (id := 1) (ops := Cd52.r.l.ops) (by kernel_rfl) ?_
  refine EL.quick 2 [4, 7, 8] [(4, .pointer (some ⟨g5233, 0, none⟩)), (7, .pointer (some ⟨g4954, 0, none⟩)), (8, .int .i32 a4963)] (by kernel_rfl) ?_
  refine EL.inline 72 [.pointer (some ⟨g4954, 0, none⟩), .int .i32 a4963] 9 (by kernel_rfl) (by kernel_rfl) (by kernel_rfl) ?_
  refine calls_of_EW (args := [.pointer (some ⟨g4954, 0, none⟩), .int .i32 a4963]) (c := Cd72) 43 Try.func72 (by kernel_rfl) (by kernel_rfl) (by kernel_rfl) ?_
  refine EW.seq (x := Cd72.l) (y := Cd72.r) (by kernel_rfl) ?_
  refine EW.region (id := 0) (ops := Cd72.l.ops) (by kernel_rfl) ?_
  refine EL.quick 1 [0, 1] [(0, .pointer (some ⟨g4954, 0, none⟩)), (1, .int .i32 a4963)] (by kernel_rfl) ?_
  refine EL.done (by kernel_rfl) ?_
  refine EQ.code ?_
  refine EW.seq (x := Cd72.r.l) (y := Cd72.r.r) (by kernel_rfl) ?_
  refine EW.region (id := 1) (ops := Cd72.r.l.ops) (by kernel_rfl) ?_
  refine EL.quick 1 [0, 1, 7] [(0, .pointer (some ⟨g4954, 0, none⟩)), (1, .int .i32 a4963), (7, .int .i32 a4963)] (by kernel_rfl) ?_
  obtain ⟨t5436, hc5437, H⟩ := b1_out H
  refine EL.of (EO.callD 80 [.int .i32 a4963] _ 8 (by kernel_rfl) (by kernel_rfl) (by kernel_rfl) (ident_Label.calls hc5437 hS) ?_)
  rintro v w ⟨rfl, hS⟩
  refine EL.quick 1 [0, 8, 9] [(0, .pointer (some ⟨g4954, 0, none⟩)), (8, .int .i64 t5436), (9, .int .i32 a4963)] (by kernel_rfl) ?_
  obtain ⟨t5438, hc5439, H⟩ := b1_out H
  refine EL.of (EO.callD 81 [.int .i32 a4963] _ 10 (by kernel_rfl) (by kernel_rfl) (by kernel_rfl) (ident_Number.calls hc5439 hS) ?_)
  rintro v w ⟨rfl, hS⟩
  refine EL.quick 2 [0, 5, 6] [(0, .pointer (some ⟨g4954, 0, none⟩)), (5, .int .i64 t5436), (6, .int .i64 t5438)] (by kernel_rfl) ?_
  refine EL.done (by kernel_rfl) ?_
  refine EQ.code ?_
  refine EW.seq (x := Cd72.r.r.l) (y := Cd72.r.r.r) (by kernel_rfl) ?_
  obtain ⟨j5481, hj5481, H⟩ := lt_out H
  refine EW.cut (x := Cd72.r.r.l.l) (y := Cd72.r.r.l.r) (fun a w => ∃ x5480 : Bool, Sat 43 [(0, .pointer (some ⟨g4954, 0, none⟩)), (5, .int .i64 t5436), (6, .int .i64 t5438), (33, .bool (x5480))] a ∧ St B w (Ass.box 75 g5233 [.int .i64 0, .int .i64 0, .int .i32 0, .int .i64 0] :: Ass.box 99 g4954 [.slice A4956 l4955.length C4957, .slice A4960 l4959.length C4961] :: Ass.deep 87 75 kS75 A4956 C4957 l4955 :: Ass.own 3 (Kd.int .i64) A4960 C4961 l4959 :: os) (rs) ∧ j5481 x5480 = some (x5230, x5231)) (by kernel_rfl) ?_ (fun a w hI => ?_)
  · refine EW.region (id := 2) (ops := Cd72.r.r.l.l.ops) (by kernel_rfl) ?_
    refine EL.quick 3 [0, 5, 6, 13] [(0, .pointer (some ⟨g4954, 0, none⟩)), (5, .int .i64 t5436), (6, .int .i64 t5438), (13, .bool (decide (t5436 < 0)))] (by kernel_rfl) ?_
    by_cases h5482 : t5436 < 0
    · rw [if_pos h5482] at H
      refine EL.keep [0, 5, 6, 13] [(0, .pointer (some ⟨g4954, 0, none⟩)), (5, .int .i64 t5436), (6, .int .i64 t5438), (13, .bool (decide (t5436 < 0)))] (by kernel_rfl) ?_
      refine EL.as' [(0, .pointer (some ⟨g4954, 0, none⟩)), (5, .int .i64 t5436), (6, .int .i64 t5438), (13, .bool (true))] (by simp only [dec_t h5482, Bool.not_true, Bool.not_false]) ?_
      refine EL.quick 20 [0, 5, 6, 33] [(0, .pointer (some ⟨g4954, 0, none⟩)), (5, .int .i64 t5436), (6, .int .i64 t5438), (33, .bool (true))] (by kernel_rfl) ?_
      refine EL.done (by kernel_rfl) ?_
      refine EQ.to ?_
      refine EQ.keep [0, 5, 6, 33] [(0, .pointer (some ⟨g4954, 0, none⟩)), (5, .int .i64 t5436), (6, .int .i64 t5438), (33, .bool (true))] (by kernel_rfl) ?_
      exact fun a ha => ⟨true, ha, (hS.re [3, 3, 3, 3] [] rfl (sub_self)), H⟩
    · rw [if_neg h5482] at H
      refine EL.keep [0, 5, 6, 13] [(0, .pointer (some ⟨g4954, 0, none⟩)), (5, .int .i64 t5436), (6, .int .i64 t5438), (13, .bool (decide (t5436 < 0)))] (by kernel_rfl) ?_
      refine EL.as' [(0, .pointer (some ⟨g4954, 0, none⟩)), (5, .int .i64 t5436), (6, .int .i64 t5438), (13, .bool (false))] (by simp only [dec_f h5482, Bool.not_true, Bool.not_false]) ?_
      refine EL.quick 4 [0, 5, 6, 13, 14, 17] [(0, .pointer (some ⟨g4954, 0, none⟩)), (5, .int .i64 t5436), (6, .int .i64 t5438), (13, .bool (false)), (14, .int .i64 t5436), (17, .pointer (some ⟨g4954, 0, none⟩))] (by kernel_rfl) ?_
      refine EL.of (EO.Y (YO.loadBox hS 1 rfl 80 0 1 (.slice A4956 l4955.length C4957) 18 (by kernel_rfl) (by kernel_rfl) (by kernel_rfl) (by kernel_rfl)) ?_)
      refine EL.quick 4 [0, 5, 6, 22] [(0, .pointer (some ⟨g4954, 0, none⟩)), (5, .int .i64 t5436), (6, .int .i64 t5438), (22, .bool (decide (t5436 ≥ (l4955.length : Int))))] (by kernel_rfl) ?_
      by_cases h5483 : t5436 ≥ (l4955.length : Int)
      · rw [if_pos h5483] at H
        refine EL.keep [0, 5, 6, 22] [(0, .pointer (some ⟨g4954, 0, none⟩)), (5, .int .i64 t5436), (6, .int .i64 t5438), (22, .bool (decide (t5436 ≥ (l4955.length : Int))))] (by kernel_rfl) ?_
        refine EL.as' [(0, .pointer (some ⟨g4954, 0, none⟩)), (5, .int .i64 t5436), (6, .int .i64 t5438), (22, .bool (true))] (by simp only [dec_t h5483, Bool.not_true, Bool.not_false]) ?_
        refine EL.quick 11 [0, 5, 6, 33] [(0, .pointer (some ⟨g4954, 0, none⟩)), (5, .int .i64 t5436), (6, .int .i64 t5438), (33, .bool (true))] (by kernel_rfl) ?_
        refine EL.done (by kernel_rfl) ?_
        refine EQ.to ?_
        refine EQ.keep [0, 5, 6, 33] [(0, .pointer (some ⟨g4954, 0, none⟩)), (5, .int .i64 t5436), (6, .int .i64 t5438), (33, .bool (true))] (by kernel_rfl) ?_
        exact fun a ha => ⟨true, ha, (hS.re [3, 3, 3, 3] [] rfl (sub_self)), H⟩
      · rw [if_neg h5483] at H
        refine EL.keep [0, 5, 6, 22] [(0, .pointer (some ⟨g4954, 0, none⟩)), (5, .int .i64 t5436), (6, .int .i64 t5438), (22, .bool (decide (t5436 ≥ (l4955.length : Int))))] (by kernel_rfl) ?_
        refine EL.as' [(0, .pointer (some ⟨g4954, 0, none⟩)), (5, .int .i64 t5436), (6, .int .i64 t5438), (22, .bool (false))] (by simp only [dec_f h5483, Bool.not_true, Bool.not_false]) ?_
        refine EL.quick 4 [0, 5, 6, 22, 23, 26] [(0, .pointer (some ⟨g4954, 0, none⟩)), (5, .int .i64 t5436), (6, .int .i64 t5438), (22, .bool (false)), (23, .int .i64 t5438), (26, .pointer (some ⟨g4954, 0, none⟩))] (by kernel_rfl) ?_
        refine EL.of (EO.Y (YO.loadBox hS 1 rfl 80 0 1 (.slice A4956 l4955.length C4957) 27 (by kernel_rfl) (by kernel_rfl) (by kernel_rfl) (by kernel_rfl)) ?_)
        refine EL.quick 1 [0, 5, 6, 22, 23, 27, 28] [(0, .pointer (some ⟨g4954, 0, none⟩)), (5, .int .i64 t5436), (6, .int .i64 t5438), (22, .bool (false)), (23, .int .i64 t5438), (27, .slice A4956 l4955.length C4957), (28, .int .i64 t5436)] (by kernel_rfl) ?_
        obtain ⟨h5484, H⟩ := ite_in H
        obtain ⟨h5485, H⟩ := ite_in H
        obtain ⟨ad5486, rfl⟩ := St.deep_some hS 2 rfl h5484 h5485
        refine EL.of (EO.Y (YO.idx 80 1 ad5486 l4955.length C4957 .i64 t5436 29 (by kernel_rfl) (by kernel_rfl) (by kernel_rfl) (by kernel_rfl) h5484 h5485) ?_)
        refine EL.of (EO.openEl hS 2 ad5486 rfl t5436 h5484 h5485 (fun A5487 C5488 => Ass.box 75 g5233 [.int .i64 0, .int .i64 0, .int .i32 0, .int .i64 0] :: Ass.box 99 g4954 [.slice (some ad5486) l4955.length C4957, .slice A4960 l4959.length C4961] :: Ass.holed 87 75 kS75 (some ad5486) C4957 l4955 t5436.toNat (A5487, (l4955.getD t5436.toNat []).length, C5488) :: Ass.own 3 (Kd.int .i64) A4960 C4961 l4959 :: os) 87 30 (by kernel_rfl) (by kernel_rfl) (by kernel_rfl) (by kernel_rfl) (fun _ _ => rfl) ?_)
        intro A5487 C5488 hS
        refine EL.quick 3 [0, 5, 6, 33] [(0, .pointer (some ⟨g4954, 0, none⟩)), (5, .int .i64 t5436), (6, .int .i64 t5438), (33, .bool (decide (t5438 ≥ ((l4955.getD t5436.toNat []).length : Int))))] (by kernel_rfl) ?_
        refine EL.done (by kernel_rfl) ?_
        refine EQ.to ?_
        have hS := St.as (os' := Ass.box 75 g5233 [.int .i64 0, .int .i64 0, .int .i32 0, .int .i64 0] :: Ass.box 99 g4954 [.slice (some ad5486) l4955.length C4957, .slice A4960 l4959.length C4961] :: Ass.deep 87 75 kS75 (some ad5486) C4957 l4955 :: Ass.own 3 (Kd.int .i64) A4960 C4961 l4959 :: os) (St.close hS 0 2 rfl rfl rfl l4955 (set_getD _ _)) rfl
        refine EQ.keep [0, 5, 6, 33] [(0, .pointer (some ⟨g4954, 0, none⟩)), (5, .int .i64 t5436), (6, .int .i64 t5438), (33, .bool (decide (t5438 ≥ ((l4955.getD t5436.toNat []).length : Int))))] (by kernel_rfl) ?_
        exact fun a ha => ⟨decide (t5438 ≥ ((l4955.getD t5436.toNat []).length : Int)), ha, (hS.re [3, 3, 3, 3] [] rfl (sub_self)), H⟩
  · obtain ⟨x5480, ha, hS, H⟩ := hI
    rw [hj5481] at H
    (try dsimp only at H)
    refine EW.at ?_ a ha
    clear ha a
    refine EW.condP' (o := (.tmp 33)) (x := Cd72.r.r.l.r.l) (y := Cd72.r.r.l.r.r) (x5480) (by kernel_rfl) (by kernel_rfl) (fun h5489 => ?_) (fun h5489 => ?_)
    · rw [if_pos h5489] at H
      refine EW.seq (x := Cd72.r.r.l.r.l.l) (y := Cd72.r.r.l.r.l.r) (by kernel_rfl) ?_
      refine EW.region (id := 3) (ops := Cd72.r.r.l.r.l.l.ops) (by kernel_rfl) ?_
      refine EL.quick 1 [4] [(4, .pointer none)] (by kernel_rfl) ?_
      refine EL.done (by kernel_rfl) ?_
      refine EQ.code ?_
      refine EW.ret (by kernel_rfl) ?_
      refine EQ.ret ?_
      refine EQ.leave (.pointer none) (by kernel_rfl) ⟨_, rfl, ?_⟩
      refine EL.quick 1 [4, 6] [(4, .pointer (some ⟨g5233, 0, none⟩)), (6, .pointer none)] (by kernel_rfl) ?_
      refine EL.done (by kernel_rfl) ?_
      refine EQ.code ?_
      refine EW.seq (x := Cd52.r.r.l) (y := Cd52.r.r.r) (by kernel_rfl) ?_
      refine EW.seq (x := Cd52.r.r.l.l) (y := Cd52.r.r.l.r) (by kernel_rfl) ?_
      refine EW.region (id := 2) (ops := Cd52.r.r.l.l.ops) (by kernel_rfl) ?_
      refine EL.quick 2 [4, 6, 11] [(4, .pointer (some ⟨g5233, 0, none⟩)), (6, .pointer none), (11, .bool (true))] (by kernel_rfl) ?_
      refine EL.done (by kernel_rfl) ?_
      refine EQ.code ?_
      refine EW.condT (o := (.tmp 11)) (x := Cd52.r.r.l.r.l) (y := Cd52.r.r.l.r.r) (by kernel_rfl) (by kernel_rfl) ?_
      refine EW.seq (x := Cd52.r.r.l.r.l.l) (y := Cd52.r.r.l.r.l.r) (by kernel_rfl) ?_
      refine EW.region (id := 3) (ops := Cd52.r.r.l.r.l.l.ops) (by kernel_rfl) ?_
      refine EL.quick 1 [4, 12] [(4, .pointer (some ⟨g5233, 0, none⟩)), (12, .agg #[.int .i64 0, .int .i64 0, .int .i32 0, .int .i64 0])] (by kernel_rfl) ?_
      refine EL.of (EO.storeBox (os' := Ass.box 75 g5233 [.int .i64 0, .int .i64 0, .int .i32 0, .int .i64 0] :: Ass.box 99 g4954 [.slice A4956 l4955.length C4957, .slice A4960 l4959.length C4961] :: Ass.deep 87 75 kS75 A4956 C4957 l4955 :: Ass.own 3 (Kd.int .i64) A4960 C4961 l4959 :: os) hS 0 rfl 75 0 (.agg #[.int .i64 0, .int .i64 0, .int .i32 0, .int .i64 0]) [.int .i64 0, .int .i64 0, .int .i32 0, .int .i64 0] (by kernel_rfl) (by kernel_rfl) (by kernel_rfl) (by kernel_rfl) (by kernel_rfl) (by kernel_rfl) rfl rfl ?_)
      intro w hS
      refine EL.quick 1 [4, 5] [(4, .pointer (some ⟨g5233, 0, none⟩)), (5, .bool (false))] (by kernel_rfl) ?_
      refine EL.done (by kernel_rfl) ?_
      refine EQ.code ?_
      refine EW.ret (by kernel_rfl) ?_
      refine EQ.ret ?_
      simp only [Option.some.injEq, Prod.mk.injEq] at H
      obtain ⟨rfl, rfl⟩ := H
      exact EQ.leave2 hS (.cell 4 75) (.tmp 5) (.agg #[.int .i64 0, .int .i64 0, .int .i32 0, .int .i64 0]) (.bool (false)) (by kernel_rfl) ⟨0, 75, g5233, [.int .i64 0, .int .i64 0, .int .i32 0, .int .i64 0], 0, 4, rfl, (by kernel_rfl), (by kernel_rfl)⟩ (oneTmp (by kernel_rfl)) ⟨_, rfl, rfl, (hS.re [3, 3, 3] [3] rfl (sub_self))⟩
    · rw [if_neg h5489] at H
      refine EW.skip (by kernel_rfl) ?_
      refine EQ.code ?_
      refine EW.seq (x := Cd72.r.r.r.l) (y := Cd72.r.r.r.r) (by kernel_rfl) ?_
      refine EW.region (id := 4) (ops := Cd72.r.r.r.l.ops) (by kernel_rfl) ?_
      refine EL.quick 3 [5, 6, 36] [(5, .int .i64 t5436), (6, .int .i64 t5438), (36, .pointer (some ⟨g4954, 0, none⟩))] (by kernel_rfl) ?_
      refine EL.of (EO.Y (YO.loadBox hS 1 rfl 80 0 1 (.slice A4956 l4955.length C4957) 37 (by kernel_rfl) (by kernel_rfl) (by kernel_rfl) (by kernel_rfl)) ?_)
      refine EL.quick 1 [6, 37, 38] [(6, .int .i64 t5438), (37, .slice A4956 l4955.length C4957), (38, .int .i64 t5436)] (by kernel_rfl) ?_
      obtain ⟨h5490, H⟩ := ite_in H
      obtain ⟨h5491, H⟩ := ite_in H
      obtain ⟨ad5492, rfl⟩ := St.deep_some hS 2 rfl h5490 h5491
      refine EL.of (EO.Y (YO.idx 80 1 ad5492 l4955.length C4957 .i64 t5436 39 (by kernel_rfl) (by kernel_rfl) (by kernel_rfl) (by kernel_rfl) h5490 h5491) ?_)
      refine EL.of (EO.openEl hS 2 ad5492 rfl t5436 h5490 h5491 (fun A5493 C5494 => Ass.box 75 g5233 [.int .i64 0, .int .i64 0, .int .i32 0, .int .i64 0] :: Ass.box 99 g4954 [.slice (some ad5492) l4955.length C4957, .slice A4960 l4959.length C4961] :: Ass.holed 87 75 kS75 (some ad5492) C4957 l4955 t5436.toNat (A5493, (l4955.getD t5436.toNat []).length, C5494) :: Ass.own 3 (Kd.int .i64) A4960 C4961 l4959 :: os) 87 40 (by kernel_rfl) (by kernel_rfl) (by kernel_rfl) (by kernel_rfl) (fun _ _ => rfl) ?_)
      intro A5493 C5494 hS
      refine EL.quick 1 [40, 41] [(40, .slice A5493 (l4955.getD t5436.toNat []).length C5494), (41, .int .i64 t5438)] (by kernel_rfl) ?_
      obtain ⟨h5495, H⟩ := ite_in H
      obtain ⟨h5496, H⟩ := ite_in H
      obtain ⟨ad5497, rfl⟩ := St.rd_some hS (Rd.own 0 75 rfl) h5495 h5496
      refine EL.of (EO.Y (YO.idx 87 4 ad5497 (l4955.getD t5436.toNat []).length C5494 .i64 t5438 42 (by kernel_rfl) (by kernel_rfl) (by kernel_rfl) (by kernel_rfl) h5495 h5496) ?_)
      refine EL.quick 1 [4] [(4, .pointer (some ((ad5497.add (t5438.toNat * 4)).add 0)))] (by kernel_rfl) ?_
      refine EL.done (by kernel_rfl) ?_
      refine EQ.code ?_
      refine EW.ret (by kernel_rfl) ?_
      refine EQ.leave (.pointer (some ((ad5497.add (t5438.toNat * 4)).add 0))) (by kernel_rfl) ⟨_, rfl, ?_⟩
      refine EL.quick 1 [4, 6] [(4, .pointer (some ⟨g5233, 0, none⟩)), (6, .pointer (some ((ad5497.add (t5438.toNat * 4)).add 0)))] (by kernel_rfl) ?_
      refine EL.done (by kernel_rfl) ?_
      refine EQ.code ?_
      refine EW.seq (x := Cd52.r.r.l) (y := Cd52.r.r.r) (by kernel_rfl) ?_
      refine EW.seq (x := Cd52.r.r.l.l) (y := Cd52.r.r.l.r) (by kernel_rfl) ?_
      refine EW.region (id := 2) (ops := Cd52.r.r.l.l.ops) (by kernel_rfl) ?_
      refine EL.quick 2 [4, 6, 11] [(4, .pointer (some ⟨g5233, 0, none⟩)), (6, .pointer (some ((ad5497.add (t5438.toNat * 4)).add 0))), (11, .bool (false))] (by kernel_rfl) ?_
      refine EL.done (by kernel_rfl) ?_
      refine EQ.code ?_
      refine EW.condF (o := (.tmp 11)) (x := Cd52.r.r.l.r.l) (y := Cd52.r.r.l.r.r) (by kernel_rfl) (by kernel_rfl) ?_
      refine EW.skip (by kernel_rfl) ?_
      refine EQ.code ?_
      refine EW.seq (x := Cd52.r.r.r.l) (y := Cd52.r.r.r.r) (by kernel_rfl) ?_
      refine EW.region (id := 4) (ops := Cd52.r.r.r.l.ops) (by kernel_rfl) ?_
      refine EL.quick 2 [4, 14] [(4, .pointer (some ⟨g5233, 0, none⟩)), (14, .pointer (some ((ad5497.add (t5438.toNat * 4)).add 0)))] (by kernel_rfl) ?_
      refine EL.of (EO.Y (YO.loadEl hS kS75 ad5497 C5494 (l4955.getD t5436.toNat []) (Rd.own 0 75 rfl) zS75 encS75 encS75_of t5438 h5495 h5496 75 4 0 4 rfl (.agg #[.int .i64 (((l4955.getD t5436.toNat []).getD t5438.toNat zS75).f0), .int .i64 (((l4955.getD t5436.toNat []).getD t5438.toNat zS75).f1), .int .i32 (((l4955.getD t5436.toNat []).getD t5438.toNat zS75).f2), .int .i64 (((l4955.getD t5436.toNat []).getD t5438.toNat zS75).f3)]) 15 (by kernel_rfl) (by kernel_rfl) (by kernel_rfl) (by kernel_rfl)) ?_)
      refine EL.of (EO.storeBox (os' := Ass.own 75 kS75 (some ad5497) C5494 (l4955.getD t5436.toNat []) :: Ass.box 75 g5233 [.int .i64 (((l4955.getD t5436.toNat []).getD t5438.toNat zS75).f0), .int .i64 (((l4955.getD t5436.toNat []).getD t5438.toNat zS75).f1), .int .i32 (((l4955.getD t5436.toNat []).getD t5438.toNat zS75).f2), .int .i64 (((l4955.getD t5436.toNat []).getD t5438.toNat zS75).f3)] :: Ass.box 99 g4954 [.slice (some ad5492) l4955.length C4957, .slice A4960 l4959.length C4961] :: Ass.holed 87 75 kS75 (some ad5492) C4957 l4955 t5436.toNat ((some ad5497), (l4955.getD t5436.toNat []).length, C5494) :: Ass.own 3 (Kd.int .i64) A4960 C4961 l4959 :: os) hS 1 rfl 75 0 (.agg #[.int .i64 (((l4955.getD t5436.toNat []).getD t5438.toNat zS75).f0), .int .i64 (((l4955.getD t5436.toNat []).getD t5438.toNat zS75).f1), .int .i32 (((l4955.getD t5436.toNat []).getD t5438.toNat zS75).f2), .int .i64 (((l4955.getD t5436.toNat []).getD t5438.toNat zS75).f3)]) [.int .i64 (((l4955.getD t5436.toNat []).getD t5438.toNat zS75).f0), .int .i64 (((l4955.getD t5436.toNat []).getD t5438.toNat zS75).f1), .int .i32 (((l4955.getD t5436.toNat []).getD t5438.toNat zS75).f2), .int .i64 (((l4955.getD t5436.toNat []).getD t5438.toNat zS75).f3)] (by kernel_rfl) (by kernel_rfl) (by kernel_rfl) (by kernel_rfl) (by kernel_rfl) (by kernel_rfl) rfl rfl ?_)
      intro w hS
      refine EL.quick 1 [4, 5] [(4, .pointer (some ⟨g5233, 0, none⟩)), (5, .bool (true))] (by kernel_rfl) ?_
      refine EL.done (by kernel_rfl) ?_
      refine EQ.code ?_
      refine EW.ret (by kernel_rfl) ?_
      have hS := St.as (os' := Ass.box 75 g5233 [.int .i64 (((l4955.getD t5436.toNat []).getD t5438.toNat zS75).f0), .int .i64 (((l4955.getD t5436.toNat []).getD t5438.toNat zS75).f1), .int .i32 (((l4955.getD t5436.toNat []).getD t5438.toNat zS75).f2), .int .i64 (((l4955.getD t5436.toNat []).getD t5438.toNat zS75).f3)] :: Ass.box 99 g4954 [.slice (some ad5492) l4955.length C4957, .slice A4960 l4959.length C4961] :: Ass.deep 87 75 kS75 (some ad5492) C4957 l4955 :: Ass.own 3 (Kd.int .i64) A4960 C4961 l4959 :: os) (St.close hS 0 2 rfl rfl rfl l4955 (set_getD _ _)) rfl
      simp only [Option.some.injEq, Prod.mk.injEq] at H
      obtain ⟨rfl, rfl⟩ := H
      exact EQ.leave2 hS (.cell 4 75) (.tmp 5) (.agg #[.int .i64 (((l4955.getD t5436.toNat []).getD t5438.toNat zS75).f0), .int .i64 (((l4955.getD t5436.toNat []).getD t5438.toNat zS75).f1), .int .i32 (((l4955.getD t5436.toNat []).getD t5438.toNat zS75).f2), .int .i64 (((l4955.getD t5436.toNat []).getD t5438.toNat zS75).f3)]) (.bool (true)) (by kernel_rfl) ⟨0, 75, g5233, [.int .i64 (((l4955.getD t5436.toNat []).getD t5438.toNat zS75).f0), .int .i64 (((l4955.getD t5436.toNat []).getD t5438.toNat zS75).f1), .int .i32 (((l4955.getD t5436.toNat []).getD t5438.toNat zS75).f2), .int .i64 (((l4955.getD t5436.toNat []).getD t5438.toNat zS75).f3)], 0, 4, rfl, (by kernel_rfl), (by kernel_rfl)⟩ (oneTmp (by kernel_rfl)) ⟨_, rfl, rfl, (hS.re [3, 3, 3] [3] rfl (sub_self))⟩

/-! ### (*confidant/future.Futures).Count: function 54 -/
def future_Futures_Count.f (K : Nat) (l5516 : List (List S75)) (l5520 : List Int) (a5524 : Int) : Option Int := lt (fun (x5555 : Bool) => (if x5555 = true then (some 0) else (if 0 ≤ a5524 then (if a5524 < (l5516.length : Int) then (some ((l5516.getD a5524.toNat []).length : Int)) else none) else none))) fun j5556 => (if a5524 < 0 then (j5556 true) else (j5556 (decide (a5524 ≥ (l5516.length : Int)))))
set_option maxRecDepth 100000 in
theorem future_Futures_Count.calls {K : Nat} {l5516 : List (List S75)} {l5520 : List Int} {a5524 : Int} {g5515 : Nat} {A5517 : Option Addr} {C5518 : Nat} {A5521 : Option Addr} {C5522 : Nat} {x5544 : Int} {B w : World} {os : List Ass} {rs : List Ro} (H : future_Futures_Count.f K l5516 l5520 a5524 = some x5544) (hS : St B w (Ass.box 99 g5515 [.slice A5517 l5516.length C5518, .slice A5521 l5520.length C5522] :: Ass.deep 87 75 kS75 A5517 C5518 l5516 :: Ass.own 3 (Kd.int .i64) A5521 C5522 l5520 :: os) (rs)) :
    Calls Try.prog 54 [.pointer (some ⟨g5515, 0, none⟩), .int .i64 a5524].toArray w (fun en w' => ∃ v, en = .returned v ∧ v = .int .i64 x5544 ∧ St B w' (Ass.box 99 g5515 [.slice A5517 l5516.length C5518, .slice A5521 l5520.length C5522] :: Ass.deep 87 75 kS75 A5517 C5518 l5516 :: Ass.own 3 (Kd.int .i64) A5521 C5522 l5520 :: os) (rs)) := by
  unfold future_Futures_Count.f at H
  refine calls_of_EW (args := [.pointer (some ⟨g5515, 0, none⟩), .int .i64 a5524]) (c := Cd54) 24 Try.func54 (by kernel_rfl) (by kernel_rfl) (by kernel_rfl) ?_
  refine EW.seq (x := Cd54.l) (y := Cd54.r) (by kernel_rfl) ?_
  refine EW.region (id := 0) (ops := Cd54.l.ops) (by kernel_rfl) ?_
  refine EL.quick 1 [0, 1] [(0, .pointer (some ⟨g5515, 0, none⟩)), (1, .int .i64 a5524)] (by kernel_rfl) ?_
  refine EL.done (by kernel_rfl) ?_
  refine EQ.code ?_
  refine EW.seq (x := Cd54.r.l) (y := Cd54.r.r) (by kernel_rfl) ?_
  obtain ⟨j5556, hj5556, H⟩ := lt_out H
  refine EW.cut (x := Cd54.r.l.l) (y := Cd54.r.l.r) (fun a w => ∃ x5555 : Bool, Sat 24 [(0, .pointer (some ⟨g5515, 0, none⟩)), (1, .int .i64 a5524), (15, .bool (x5555))] a ∧ St B w (Ass.box 99 g5515 [.slice A5517 l5516.length C5518, .slice A5521 l5520.length C5522] :: Ass.deep 87 75 kS75 A5517 C5518 l5516 :: Ass.own 3 (Kd.int .i64) A5521 C5522 l5520 :: os) (rs) ∧ j5556 x5555 = some x5544) (by kernel_rfl) ?_ (fun a w hI => ?_)
  · refine EW.region (id := 1) (ops := Cd54.r.l.l.ops) (by kernel_rfl) ?_
    refine EL.quick 3 [0, 1, 7] [(0, .pointer (some ⟨g5515, 0, none⟩)), (1, .int .i64 a5524), (7, .bool (decide (a5524 < 0)))] (by kernel_rfl) ?_
    by_cases h5557 : a5524 < 0
    · rw [if_pos h5557] at H
      refine EL.keep [0, 1, 7] [(0, .pointer (some ⟨g5515, 0, none⟩)), (1, .int .i64 a5524), (7, .bool (decide (a5524 < 0)))] (by kernel_rfl) ?_
      refine EL.as' [(0, .pointer (some ⟨g5515, 0, none⟩)), (1, .int .i64 a5524), (7, .bool (true))] (by simp only [dec_t h5557, Bool.not_true, Bool.not_false]) ?_
      refine EL.quick 8 [0, 1, 15] [(0, .pointer (some ⟨g5515, 0, none⟩)), (1, .int .i64 a5524), (15, .bool (true))] (by kernel_rfl) ?_
      refine EL.done (by kernel_rfl) ?_
      refine EQ.to ?_
      refine EQ.keep [0, 1, 15] [(0, .pointer (some ⟨g5515, 0, none⟩)), (1, .int .i64 a5524), (15, .bool (true))] (by kernel_rfl) ?_
      exact fun a ha => ⟨true, ha, (hS.re [2, 2, 2] [] rfl (sub_self)), H⟩
    · rw [if_neg h5557] at H
      refine EL.keep [0, 1, 7] [(0, .pointer (some ⟨g5515, 0, none⟩)), (1, .int .i64 a5524), (7, .bool (decide (a5524 < 0)))] (by kernel_rfl) ?_
      refine EL.as' [(0, .pointer (some ⟨g5515, 0, none⟩)), (1, .int .i64 a5524), (7, .bool (false))] (by simp only [dec_f h5557, Bool.not_true, Bool.not_false]) ?_
      refine EL.quick 4 [0, 1, 7, 8, 11] [(0, .pointer (some ⟨g5515, 0, none⟩)), (1, .int .i64 a5524), (7, .bool (false)), (8, .int .i64 a5524), (11, .pointer (some ⟨g5515, 0, none⟩))] (by kernel_rfl) ?_
      refine EL.of (EO.Y (YO.loadBox hS 0 rfl 80 0 1 (.slice A5517 l5516.length C5518) 12 (by kernel_rfl) (by kernel_rfl) (by kernel_rfl) (by kernel_rfl)) ?_)
      refine EL.quick 3 [0, 1, 15] [(0, .pointer (some ⟨g5515, 0, none⟩)), (1, .int .i64 a5524), (15, .bool (decide (a5524 ≥ (l5516.length : Int))))] (by kernel_rfl) ?_
      refine EL.done (by kernel_rfl) ?_
      refine EQ.to ?_
      refine EQ.keep [0, 1, 15] [(0, .pointer (some ⟨g5515, 0, none⟩)), (1, .int .i64 a5524), (15, .bool (decide (a5524 ≥ (l5516.length : Int))))] (by kernel_rfl) ?_
      exact fun a ha => ⟨decide (a5524 ≥ (l5516.length : Int)), ha, (hS.re [2, 2, 2] [] rfl (sub_self)), H⟩
  · obtain ⟨x5555, ha, hS, H⟩ := hI
    rw [hj5556] at H
    (try dsimp only at H)
    refine EW.at ?_ a ha
    clear ha a
    refine EW.condP' (o := (.tmp 15)) (x := Cd54.r.l.r.l) (y := Cd54.r.l.r.r) (x5555) (by kernel_rfl) (by kernel_rfl) (fun h5558 => ?_) (fun h5558 => ?_)
    · rw [if_pos h5558] at H
      refine EW.seq (x := Cd54.r.l.r.l.l) (y := Cd54.r.l.r.l.r) (by kernel_rfl) ?_
      refine EW.region (id := 2) (ops := Cd54.r.l.r.l.l.ops) (by kernel_rfl) ?_
      refine EL.quick 1 [4] [(4, .int .i64 0)] (by kernel_rfl) ?_
      refine EL.done (by kernel_rfl) ?_
      refine EQ.code ?_
      refine EW.ret (by kernel_rfl) ?_
      refine EQ.ret ?_
      obtain rfl := Option.some.inj H
      exact EQ.leave (.int .i64 0) (by kernel_rfl) ⟨_, rfl, rfl, (hS.re [2, 2, 2] [] rfl (sub_self))⟩
    · rw [if_neg h5558] at H
      refine EW.skip (by kernel_rfl) ?_
      refine EQ.code ?_
      refine EW.seq (x := Cd54.r.r.l) (y := Cd54.r.r.r) (by kernel_rfl) ?_
      refine EW.region (id := 3) (ops := Cd54.r.r.l.ops) (by kernel_rfl) ?_
      refine EL.quick 3 [1, 18] [(1, .int .i64 a5524), (18, .pointer (some ⟨g5515, 0, none⟩))] (by kernel_rfl) ?_
      refine EL.of (EO.Y (YO.loadBox hS 0 rfl 80 0 1 (.slice A5517 l5516.length C5518) 19 (by kernel_rfl) (by kernel_rfl) (by kernel_rfl) (by kernel_rfl)) ?_)
      refine EL.quick 1 [19, 20] [(19, .slice A5517 l5516.length C5518), (20, .int .i64 a5524)] (by kernel_rfl) ?_
      obtain ⟨h5559, H⟩ := ite_in H
      obtain ⟨h5560, H⟩ := ite_in H
      obtain ⟨ad5561, rfl⟩ := St.deep_some hS 1 rfl h5559 h5560
      refine EL.of (EO.Y (YO.idx 80 1 ad5561 l5516.length C5518 .i64 a5524 21 (by kernel_rfl) (by kernel_rfl) (by kernel_rfl) (by kernel_rfl) h5559 h5560) ?_)
      refine EL.of (EO.openEl hS 1 ad5561 rfl a5524 h5559 h5560 (fun A5562 C5563 => Ass.box 99 g5515 [.slice (some ad5561) l5516.length C5518, .slice A5521 l5520.length C5522] :: Ass.holed 87 75 kS75 (some ad5561) C5518 l5516 a5524.toNat (A5562, (l5516.getD a5524.toNat []).length, C5563) :: Ass.own 3 (Kd.int .i64) A5521 C5522 l5520 :: os) 87 22 (by kernel_rfl) (by kernel_rfl) (by kernel_rfl) (by kernel_rfl) (fun _ _ => rfl) ?_)
      intro A5562 C5563 hS
      refine EL.quick 2 [4] [(4, .int .i64 ((l5516.getD a5524.toNat []).length : Int))] (by kernel_rfl) ?_
      refine EL.done (by kernel_rfl) ?_
      refine EQ.code ?_
      refine EW.ret (by kernel_rfl) ?_
      have hS := St.as (os' := Ass.box 99 g5515 [.slice (some ad5561) l5516.length C5518, .slice A5521 l5520.length C5522] :: Ass.deep 87 75 kS75 (some ad5561) C5518 l5516 :: Ass.own 3 (Kd.int .i64) A5521 C5522 l5520 :: os) (St.close hS 0 1 rfl rfl rfl l5516 (set_getD _ _)) rfl
      obtain rfl := Option.some.inj H
      exact EQ.leave (.int .i64 ((l5516.getD a5524.toNat []).length : Int)) (by kernel_rfl) ⟨_, rfl, rfl, (hS.re [2, 2, 2] [] rfl (sub_self))⟩

/-! ### slices.Clone[[]confidant/api.Future,confidant/api.Future]: function 76 -/
def api_Future.f (K : Nat) (l5585 : List S75) : Option (List S75) := lt ([] : List S75) fun l5617 => (if (l5617.length + l5585.length) * 32 ≤ 140737488355328 then (lt (l5617 ++ l5585) fun l5619 => (some l5619)) else none)
set_option maxRecDepth 100000 in
theorem api_Future.calls {K : Nat} {l5585 : List S75} {A5586 : Option Addr} {C5587 : Nat} {x5603 : List S75} {B w : World} {os : List Ass} {rs : List Ro} (H : api_Future.f K l5585 = some x5603) (hS : St B w (Ass.own 75 kS75 A5586 C5587 l5585 :: os) (rs)) :
    Calls Try.prog 76 [.slice A5586 l5585.length C5587].toArray w (fun en w' => ∃ v, en = .returned v ∧ ∃ A5604 : Option Addr, ∃ C5605 : Nat, v = .slice A5604 x5603.length C5605 ∧ St B w' (Ass.own 75 kS75 A5586 C5587 l5585 :: Ass.own 75 kS75 A5604 C5605 x5603 :: os) (rs)) := by
  unfold api_Future.f at H
  refine calls_of_EW (args := [.slice A5586 l5585.length C5587]) (c := Cd76) 8 Try.func76 (by kernel_rfl) (by kernel_rfl) (by kernel_rfl) ?_
  refine EW.seq (x := Cd76.l) (y := Cd76.r) (by kernel_rfl) ?_
  refine EW.region (id := 0) (ops := Cd76.l.ops) (by kernel_rfl) ?_
  refine EL.quick 1 [0] [(0, .slice A5586 l5585.length C5587)] (by kernel_rfl) ?_
  refine EL.done (by kernel_rfl) ?_
  refine EQ.code ?_
  refine EW.seq (x := Cd76.r.l) (y := Cd76.r.r) (by kernel_rfl) ?_
  refine EW.seq (x := Cd76.r.l.l) (y := Cd76.r.l.r) (by kernel_rfl) ?_
  refine EW.region (id := 1) (ops := Cd76.r.l.l.ops) (by kernel_rfl) ?_
  refine EL.quick 1 [0, 3] [(0, .slice A5586 l5585.length C5587), (3, .slice A5586 l5585.length C5587)] (by kernel_rfl) ?_
  rcases A5586 with _ | ad5614
  · have h5615 := St.rd_nil hS (Rd.own 0 75 rfl)
    have H : (some ([] : List S75)) = some x5603 := by simpa [lt, h5615] using H
    refine EL.quick 1 [0, 4] [(0, .slice none l5585.length C5587), (4, .bool (true))] (by kernel_rfl) ?_
    refine EL.done (by kernel_rfl) ?_
    refine EQ.code ?_
    refine EW.condT (o := (.tmp 4)) (x := Cd76.r.l.r.l) (y := Cd76.r.l.r.r) (by kernel_rfl) (by kernel_rfl) ?_
    refine EW.seq (x := Cd76.r.l.r.l.l) (y := Cd76.r.l.r.l.r) (by kernel_rfl) ?_
    refine EW.region (id := 2) (ops := Cd76.r.l.r.l.l.ops) (by kernel_rfl) ?_
    refine EL.quick 1 [2] [(2, .slice none ([] : List S75).length 0)] (by kernel_rfl) ?_
    refine EL.done (by kernel_rfl) ?_
    refine EQ.code ?_
    refine EW.ret (by kernel_rfl) ?_
    refine EQ.ret ?_
    have hS := St.nilO hS 75 kS75
    obtain rfl := Option.some.inj H
    exact EQ.leave (.slice none ([] : List S75).length 0) (by kernel_rfl) ⟨_, rfl, none, 0, rfl, (hS.re [0, 1] [] rfl (sub_self))⟩
  · refine EL.quick 1 [0, 4] [(0, .slice (some ad5614) l5585.length C5587), (4, .bool (false))] (by kernel_rfl) ?_
    refine EL.done (by kernel_rfl) ?_
    refine EQ.code ?_
    refine EW.condF (o := (.tmp 4)) (x := Cd76.r.l.r.l) (y := Cd76.r.l.r.r) (by kernel_rfl) (by kernel_rfl) ?_
    refine EW.skip (by kernel_rfl) ?_
    refine EQ.code ?_
    refine EW.seq (x := Cd76.r.r.l) (y := Cd76.r.r.r) (by kernel_rfl) ?_
    refine EW.region (id := 3) (ops := Cd76.r.r.l.ops) (by kernel_rfl) ?_
    obtain ⟨l5617, hl5617, H⟩ := lt_out H
    refine EL.of (EO.lit hS kS75 75 87 0 #[] [] l5617 5 (by kernel_rfl) (by kernel_rfl) (by kernel_rfl) (fun _ => (by kernel_rfl)) (by rw [hl5617]; rfl) (by kernel_rfl) (fun w G hr => (by rw [hl5617]; exact rfl)) ?_)
    intro g5616 w hS
    refine EL.quick 1 [5, 6] [(5, .slice (some ⟨g5616, 0, none⟩) l5617.length 0), (6, .slice (some ad5614) l5585.length C5587)] (by kernel_rfl) ?_
    obtain ⟨h5618, H⟩ := ite_in H
    obtain ⟨l5619, hl5619, H⟩ := lt_out H
    refine EL.of (EO.append hS 87 87 75 32 0 kS75 (some ⟨g5616, 0, none⟩) 0 l5617 rfl (some ad5614) C5587 l5585 (Rd.own 1 75 rfl) l5619 hl5619 (fun A5620 C5621 => Ass.own 75 kS75 A5620 C5621 l5619 :: Ass.own 75 kS75 (some ad5614) C5587 l5585 :: os) 7 (by kernel_rfl) (by kernel_rfl) (by kernel_rfl) (by kernel_rfl) h5618 (fun _ _ => rfl) ?_)
    intro A5620 C5621 w hS
    refine EL.quick 1 [2] [(2, .slice A5620 l5619.length C5621)] (by kernel_rfl) ?_
    refine EL.done (by kernel_rfl) ?_
    refine EQ.code ?_
    refine EW.ret (by kernel_rfl) ?_
    obtain rfl := Option.some.inj H
    exact EQ.leave (.slice A5620 l5619.length C5621) (by kernel_rfl) ⟨_, rfl, A5620, C5621, rfl, (hS.re [0, 1] [] rfl (sub_self))⟩

/-! ### (*confidant/future.Futures).All: function 57 -/
def future_Futures_All.l0 (K : Nat) (l5569 : List (List S75)) : Nat → (List (List S75)) → Int → Option (List (List S75))
  | 0, _, _ => none
  | n + 1, x5889, x5893 => if x5893 < (l5569.length : Int) then (if 0 ≤ x5893 then (b1 (api_Future.f K (l5569.getD x5893.toNat [])) fun (t5966 : List S75) => (if (x5889.length + ([t5966] : List (List S75)).length) * 24 ≤ 140737488355328 then (lt (x5889 ++ ([t5966] : List (List S75))) fun l5972 => (future_Futures_All.l0 K l5569 n l5972 (IntKind.i64.wrap (x5893 + 1)))) else none)) else none) else (some x5889)
def future_Futures_All.f (K : Nat) (l5569 : List (List S75)) (l5573 : List Int) : Option (List (List S75)) := future_Futures_All.l0 K l5569 K ([] : List (List S75)) 0
set_option maxRecDepth 100000 in
theorem future_Futures_All.calls {K : Nat} {l5569 : List (List S75)} {l5573 : List Int} {g5568 : Nat} {A5570 : Option Addr} {C5571 : Nat} {A5574 : Option Addr} {C5575 : Nat} {x5792 : List (List S75)} {B w : World} {os : List Ass} {rs : List Ro} (H : future_Futures_All.f K l5569 l5573 = some x5792) (hS : St B w (Ass.box 99 g5568 [.slice A5570 l5569.length C5571, .slice A5574 l5573.length C5575] :: Ass.deep 87 75 kS75 A5570 C5571 l5569 :: Ass.own 3 (Kd.int .i64) A5574 C5575 l5573 :: os) (rs)) :
    Calls Try.prog 57 [.pointer (some ⟨g5568, 0, none⟩)].toArray w (fun en w' => ∃ v, en = .returned v ∧ ∃ A5793 : Option Addr, ∃ C5794 : Nat, v = .slice A5793 x5792.length C5794 ∧ St B w' (Ass.box 99 g5568 [.slice A5570 l5569.length C5571, .slice A5574 l5573.length C5575] :: Ass.deep 87 75 kS75 A5570 C5571 l5569 :: Ass.own 3 (Kd.int .i64) A5574 C5575 l5573 :: Ass.deep 87 75 kS75 A5793 C5794 x5792 :: os) (rs)) := by
  unfold future_Futures_All.f at H
  refine calls_of_EW (args := [.pointer (some ⟨g5568, 0, none⟩)]) (c := Cd57) 22 Try.func57 (by kernel_rfl) (by kernel_rfl) (by kernel_rfl) ?_
  refine EW.seq (x := Cd57.l) (y := Cd57.r) (by kernel_rfl) ?_
  refine EW.region (id := 0) (ops := Cd57.l.ops) (by kernel_rfl) ?_
  refine EL.quick 1 [0] [(0, .pointer (some ⟨g5568, 0, none⟩))] (by kernel_rfl) ?_
  refine EL.done (by kernel_rfl) ?_
  refine EQ.code ?_
  refine EW.seq (x := Cd57.r.l) (y := Cd57.r.r) (by kernel_rfl) ?_
  refine EW.region (id := 1) (ops := Cd57.r.l.ops) (by kernel_rfl) ?_
  refine EL.quick 1 [0, 3] [(0, .pointer (some ⟨g5568, 0, none⟩)), (3, .slice none ([] : List (List S75)).length 0)] (by kernel_rfl) ?_
  refine EL.done (by kernel_rfl) ?_
  refine EQ.code ?_
  refine EW.seq (x := Cd57.r.r.l) (y := Cd57.r.r.r) (by kernel_rfl) ?_
  refine EW.seq (x := Cd57.r.r.l.l) (y := Cd57.r.r.l.r) (by kernel_rfl) ?_
  refine EW.region (id := 2) (ops := Cd57.r.r.l.l.ops) (by kernel_rfl) ?_
  refine EL.quick 3 [3, 8] [(3, .slice none ([] : List (List S75)).length 0), (8, .pointer (some ⟨g5568, 0, none⟩))] (by kernel_rfl) ?_
  refine EL.of (EO.Y (YO.loadBox hS 0 rfl 80 0 1 (.slice A5570 l5569.length C5571) 9 (by kernel_rfl) (by kernel_rfl) (by kernel_rfl) (by kernel_rfl)) ?_)
  refine EL.quick 2 [3, 9, 10, 11] [(3, .slice none ([] : List (List S75)).length 0), (9, .slice A5570 l5569.length C5571), (10, .int .i64 (l5569.length : Int)), (11, .int .i64 0)] (by kernel_rfl) ?_
  refine EL.done (by kernel_rfl) ?_
  refine EQ.code ?_
  refine EW.block (x := Cd57.r.r.l.r.l) (id := 0) (by kernel_rfl) ?_
  have hS := St.nilDeep hS 87 75 kS75
  refine EW.loop (x := Cd57.r.r.l.r.l.l) (fun n a w => ∃ x5889 : List (List S75), ∃ x5893 : Int, ∃ A5890 : Option Addr, ∃ C5891 : Nat, Sat 22 [(3, .slice A5890 x5889.length C5891), (9, .slice A5570 l5569.length C5571), (10, .int .i64 (l5569.length : Int)), (11, .int .i64 x5893)] a ∧ St B w (Ass.box 99 g5568 [.slice A5570 l5569.length C5571, .slice A5574 l5573.length C5575] :: Ass.deep 87 75 kS75 A5570 C5571 l5569 :: Ass.own 3 (Kd.int .i64) A5574 C5575 l5573 :: Ass.deep 87 75 kS75 A5890 C5891 x5889 :: os) (rs) ∧ future_Futures_All.l0 K l5569 n x5889 x5893 = some x5792) K (by kernel_rfl) ?_ (fun n a w hI => ?_)
  · refine EQ.keep [3, 9, 10, 11] [(3, .slice none ([] : List (List S75)).length 0), (9, .slice A5570 l5569.length C5571), (10, .int .i64 (l5569.length : Int)), (11, .int .i64 0)] (by kernel_rfl) ?_
    exact fun a ha => ⟨([] : List (List S75)), 0, none, 0, ha, (hS.re [0, 3, 3, 3] [] rfl (sub_self)), H⟩
  · obtain ⟨x5889, x5893, A5890, C5891, ha, hS, H⟩ := hI
    obtain _ | n := n
    · simp [future_Futures_All.l0] at H
    rw [future_Futures_All.l0.eq_2] at H
    refine EW.at ?_ a ha
    clear ha a
    refine EW.seq (x := Cd57.r.r.l.r.l.l.l) (y := Cd57.r.r.l.r.l.l.r) (by kernel_rfl) ?_
    refine EW.region (id := 3) (ops := Cd57.r.r.l.r.l.l.l.ops) (by kernel_rfl) ?_
    refine EL.quick 1 [3, 9, 10, 11, 12] [(3, .slice A5890 x5889.length C5891), (9, .slice A5570 l5569.length C5571), (10, .int .i64 (l5569.length : Int)), (11, .int .i64 x5893), (12, .bool (decide (x5893 < (l5569.length : Int))))] (by kernel_rfl) ?_
    refine EL.done (by kernel_rfl) ?_
    refine EQ.code ?_
    refine EW.seq (x := Cd57.r.r.l.r.l.l.r.l) (y := Cd57.r.r.l.r.l.l.r.r) (by kernel_rfl) ?_
    refine EW.condP (o := (.tmp 12)) (x := Cd57.r.r.l.r.l.l.r.l.l) (y := Cd57.r.r.l.r.l.l.r.l.r) (x5893 < (l5569.length : Int)) (by kernel_rfl) (by kernel_rfl) (fun h5940 => ?_) (fun h5940 => ?_)
    · rw [if_pos h5940] at H
      refine EW.skip (by kernel_rfl) ?_
      refine EQ.code ?_
      refine EW.seq (x := Cd57.r.r.l.r.l.l.r.r.l) (y := Cd57.r.r.l.r.l.l.r.r.r) (by kernel_rfl) ?_
      refine EW.block (x := Cd57.r.r.l.r.l.l.r.r.l.l) (id := 1) (by kernel_rfl) ?_
      refine EW.seq (x := Cd57.r.r.l.r.l.l.r.r.l.l.l) (y := Cd57.r.r.l.r.l.l.r.r.l.l.r) (by kernel_rfl) ?_
      refine EW.region (id := 4) (ops := Cd57.r.r.l.r.l.l.r.r.l.l.l.ops) (by kernel_rfl) ?_
      obtain ⟨h5962, H⟩ := ite_in H
      obtain ⟨ad5963, rfl⟩ := St.deep_some hS 1 rfl h5962 h5940
      refine EL.of (EO.Y (YO.idx 80 1 ad5963 l5569.length C5571 .i64 x5893 13 (by kernel_rfl) (by kernel_rfl) (by kernel_rfl) (by kernel_rfl) h5962 h5940) ?_)
      refine EL.of (EO.openEl hS 1 ad5963 rfl x5893 h5962 h5940 (fun A5964 C5965 => Ass.box 99 g5568 [.slice (some ad5963) l5569.length C5571, .slice A5574 l5573.length C5575] :: Ass.holed 87 75 kS75 (some ad5963) C5571 l5569 x5893.toNat (A5964, (l5569.getD x5893.toNat []).length, C5965) :: Ass.own 3 (Kd.int .i64) A5574 C5575 l5573 :: Ass.deep 87 75 kS75 A5890 C5891 x5889 :: os) 87 14 (by kernel_rfl) (by kernel_rfl) (by kernel_rfl) (by kernel_rfl) (fun _ _ => rfl) ?_)
      intro A5964 C5965 hS
      refine EL.quick 1 [3, 5, 9, 10, 11] [(3, .slice A5890 x5889.length C5891), (5, .slice A5964 (l5569.getD x5893.toNat []).length C5965), (9, .slice (some ad5963) l5569.length C5571), (10, .int .i64 (l5569.length : Int)), (11, .int .i64 x5893)] (by kernel_rfl) ?_
      refine EL.done (by kernel_rfl) ?_
      refine EQ.code ?_
      refine EW.region (id := 5) (ops := Cd57.r.r.l.r.l.l.r.r.l.l.r.ops) (by kernel_rfl) ?_
      refine EL.quick 2 [9, 10, 11, 15, 16] [(9, .slice (some ad5963) l5569.length C5571), (10, .int .i64 (l5569.length : Int)), (11, .int .i64 x5893), (15, .slice A5890 x5889.length C5891), (16, .slice A5964 (l5569.getD x5893.toNat []).length C5965)] (by kernel_rfl) ?_
      obtain ⟨t5966, hc5969, H⟩ := b1_out H
      refine EL.of (EO.callD 76 [.slice A5964 (l5569.getD x5893.toNat []).length C5965] _ 17 (by kernel_rfl) (by kernel_rfl) (by kernel_rfl) (api_Future.calls hc5969 hS) ?_)
      rintro v w ⟨A5967, C5968, rfl, hS⟩
      refine EL.of (EO.lit (xs := ([(A5967, t5966.length, C5968)] : List Hdr)) hS Kd.hdr 87 80 1 #[(0, .slice A5967 t5966.length C5968)] [.slice A5967 t5966.length C5968] 18 (by kernel_rfl) (by kernel_rfl) (by kernel_rfl) (fun _ => (by kernel_rfl)) rfl (by kernel_rfl) (fun w G hr => ⟨[.slice A5967 t5966.length C5968], [], rfl, rfl, rfl⟩) ?_)
      intro g5970 w hS
      have hS := St.as (os' := Ass.deep 87 75 kS75 (some ⟨g5970, 0, none⟩) 1 ([t5966] : List (List S75)) :: Ass.own 75 kS75 A5964 C5965 (l5569.getD x5893.toNat []) :: Ass.box 99 g5568 [.slice (some ad5963) l5569.length C5571, .slice A5574 l5573.length C5575] :: Ass.holed 87 75 kS75 (some ad5963) C5571 l5569 x5893.toNat (A5964, (l5569.getD x5893.toNat []).length, C5965) :: Ass.own 3 (Kd.int .i64) A5574 C5575 l5573 :: Ass.deep 87 75 kS75 A5890 C5891 x5889 :: os) (St.fold (B := B) (os := _) (rs := _) (et := 87) (et' := 75) (K := kS75) (hs := [(A5967, t5966.length, C5968)]) (xs := ([t5966] : List (List S75))) ⟨rfl, trivial⟩ (St.re hS [2, 1] [] rfl sub_self)) rfl
      obtain ⟨h5971, H⟩ := ite_in H
      obtain ⟨l5972, hl5972, H⟩ := lt_out H
      refine EL.of (EO.appendDeep hS 80 80 24 5 0 kS75 A5890 C5891 x5889 rfl (some ⟨g5970, 0, none⟩) 1 ([t5966] : List (List S75)) rfl l5972 hl5972 (fun A5973 C5974 => Ass.deep 87 75 kS75 A5973 C5974 l5972 :: Ass.own 75 kS75 A5964 C5965 (l5569.getD x5893.toNat []) :: Ass.box 99 g5568 [.slice (some ad5963) l5569.length C5571, .slice A5574 l5573.length C5575] :: Ass.holed 87 75 kS75 (some ad5963) C5571 l5569 x5893.toNat (A5964, (l5569.getD x5893.toNat []).length, C5965) :: Ass.own 3 (Kd.int .i64) A5574 C5575 l5573 :: os) 19 (by kernel_rfl) (by kernel_rfl) (by kernel_rfl) (by kernel_rfl) h5971 (fun _ _ => rfl) ?_)
      intro A5973 C5974 w hS
      refine EL.quick 1 [3, 9, 10, 11] [(3, .slice A5973 l5972.length C5974), (9, .slice (some ad5963) l5569.length C5571), (10, .int .i64 (l5569.length : Int)), (11, .int .i64 x5893)] (by kernel_rfl) ?_
      refine EL.done (by kernel_rfl) ?_
      refine EQ.pop ?_
      refine EQ.code ?_
      refine EW.region (id := 6) (ops := Cd57.r.r.l.r.l.l.r.r.r.ops) (by kernel_rfl) ?_
      refine EL.quick 2 [3, 9, 10, 11] [(3, .slice A5973 l5972.length C5974), (9, .slice (some ad5963) l5569.length C5571), (10, .int .i64 (l5569.length : Int)), (11, .int .i64 (IntKind.i64.wrap (x5893 + 1)))] (by kernel_rfl) ?_
      refine EL.done (by kernel_rfl) ?_
      refine EQ.to ?_
      have hS := St.as (os' := Ass.deep 87 75 kS75 A5973 C5974 l5972 :: Ass.box 99 g5568 [.slice (some ad5963) l5569.length C5571, .slice A5574 l5573.length C5575] :: Ass.deep 87 75 kS75 (some ad5963) C5571 l5569 :: Ass.own 3 (Kd.int .i64) A5574 C5575 l5573 :: os) (St.close hS 1 2 rfl rfl rfl l5569 (set_getD _ _)) rfl
      refine EQ.keep [3, 9, 10, 11] [(3, .slice A5973 l5972.length C5974), (9, .slice (some ad5963) l5569.length C5571), (10, .int .i64 (l5569.length : Int)), (11, .int .i64 (IntKind.i64.wrap (x5893 + 1)))] (by kernel_rfl) ?_
      exact fun a ha => ⟨n, Nat.lt_succ_self n, l5972, IntKind.i64.wrap (x5893 + 1), A5973, C5974, ha, (hS.re [0, 3, 3, 3] [] rfl (sub_self)), H⟩
    · rw [if_neg h5940] at H
      refine EW.exit (id := 0) (by kernel_rfl) ?_
      refine EQ.exitCode ?_
      refine EQ.exitTo ?_
      refine EQ.exitHere ?_
      refine EQ.code ?_
      refine EW.seq (x := Cd57.r.r.r.l) (y := Cd57.r.r.r.r) (by kernel_rfl) ?_
      refine EW.region (id := 7) (ops := Cd57.r.r.r.l.ops) (by kernel_rfl) ?_
      refine EL.quick 2 [2] [(2, .slice A5890 x5889.length C5891)] (by kernel_rfl) ?_
      refine EL.done (by kernel_rfl) ?_
      refine EQ.code ?_
      refine EW.ret (by kernel_rfl) ?_
      obtain rfl := Option.some.inj H
      exact EQ.leave (.slice A5890 x5889.length C5891) (by kernel_rfl) ⟨_, rfl, A5890, C5891, rfl, (hS.re [3, 3, 3, 3] [] rfl (sub_self))⟩

/-! ### confidant/confidantlaw13.known: function 42 -/
def confidantlaw13_known.f (K : Nat)  : Option Bool := lt ([2] : List Int) fun l6000 => (b2 (future_New.f K l6000) fun (t6001 : List (List S75)) (t6002 : List Int) => (b3 (future_Futures_Make.f K t6001 t6002 0 1) fun (t6015 : List (List S75)) (t6016 : Int) (t6017 : Bool) => (b2 (future_Futures_Keep.f K t6015 t6002 t6016 5) fun (t6036 : List (List S75)) (t6037 : Bool) => (b2 (future_Futures_Keep.f K t6036 t6002 t6016 6) fun (t6041 : List (List S75)) (t6042 : Bool) => (b2 (future_Futures_Break.f K t6041 t6002 t6016 7) fun (t6046 : List (List S75)) (t6047 : Bool) => (b2 (future_Futures_Get.f K t6046 t6002 t6016) fun (t6055 : S75) (t6056 : Bool) => (if t6017 = true then (if t6037 = true then (if t6042 = true then (some false) else (if t6047 = true then (some false) else (if t6056 = true then (if t6055.f1 = 1 then (if t6055.f2 = 5 then (if t6055.f0 = 1 then (b1 (future_Futures_Count.f K t6046 t6002 0) fun (t6067 : Int) => (if t6067 = 1 then (b1 (future_Futures_All.f K t6046 t6002) fun (t6070 : List (List S75)) => (if (t6070.length : Int) = 1 then (b1 (future_Futures_All.f K t6046 t6002) fun (t6075 : List (List S75)) => (if (0 : Int) < (t6075.length : Int) then (some (decide (((t6075.getD (0 : Int).toNat []).length : Int) = 1))) else none)) else (some false))) else (some false))) else (some false)) else (some false)) else (some false)) else (some false)))) else (some false)) else (some false))))))))
set_option maxRecDepth 100000 in
theorem confidantlaw13_known.calls {K : Nat} {x5988 : Bool} {B w : World} {os : List Ass} {rs : List Ro} (H : confidantlaw13_known.f K = some x5988) (hS : St B w (os) (rs)) :
    Calls Try.prog 42 [].toArray w (fun en w' => ∃ v, en = .returned v ∧ v = .bool (x5988) ∧ St B w' (os) (rs)) := by
  unfold confidantlaw13_known.f at H
  refine calls_of_EW (args := []) (c := Cd42) 82 Try.func42 (by kernel_rfl) (by kernel_rfl) (by kernel_rfl) ?_
  refine EW.seq (x := Cd42.l) (y := Cd42.r) (by kernel_rfl) ?_
  refine EW.region (id := 0) (ops := Cd42.l.ops) (by kernel_rfl) ?_
  refine EL.quick 1 [] [] (by kernel_rfl) ?_
  refine EL.done (by kernel_rfl) ?_
  refine EQ.code ?_
  refine EW.seq (x := Cd42.r.l) (y := Cd42.r.r) (by kernel_rfl) ?_
  refine EW.region (id := 1) (ops := Cd42.r.l.ops) (by kernel_rfl) ?_
  obtain ⟨l6000, hl6000, H⟩ := lt_out H
  refine EL.of (EO.lit hS (Kd.int .i64) 3 24 1 #[(0, .int .i64 2)] [.int .i64 2] l6000 9 (by kernel_rfl) (by kernel_rfl) (by kernel_rfl) (fun _ => (by kernel_rfl)) (by rw [hl6000]; rfl) (by kernel_rfl) (fun w G hr => (by rw [hl6000]; exact ⟨[.int .i64 2], [], rfl, rfl, rfl⟩)) ?_)
  intro g5999 w hS
  have hS := St.fr hS 0 rfl
  have hS : St B _ (os) (Ro.sl (Kd.int .i64) (some ⟨g5999, 0, none⟩) 1 l6000 :: Ro.sl (Kd.int .i64) (some ⟨g5999, 0, none⟩) 1 l6000 :: rs) := hS.re [] [] rfl (sub_cons 0 rfl sub_self)
  obtain ⟨t6001, t6002, hc6008, H⟩ := b2_out H
  refine EL.of (EO.callD 44 [.slice (some ⟨g5999, 0, none⟩) l6000.length 1] _ 10 (by kernel_rfl) (by kernel_rfl) (by kernel_rfl) (future_New.calls hc6008 hS) ?_)
  rintro v w ⟨g6003, A6004, C6005, A6006, C6007, rfl, hS⟩
  refine EL.quick 1 [1] [(1, .pointer (some ⟨g6003, 0, none⟩))] (by kernel_rfl) ?_
  refine EL.done (by kernel_rfl) ?_
  refine EQ.code ?_
  refine EW.seq (x := Cd42.r.r.l) (y := Cd42.r.r.r) (by kernel_rfl) ?_
  refine EW.seq (x := Cd42.r.r.l.l) (y := Cd42.r.r.l.r) (by kernel_rfl) ?_
  refine EW.region (id := 2) (ops := Cd42.r.r.l.l.ops) (by kernel_rfl) ?_
  refine EL.quick 2 [1, 12] [(1, .pointer (some ⟨g6003, 0, none⟩)), (12, .bool (false))] (by kernel_rfl) ?_
  refine EL.done (by kernel_rfl) ?_
  refine EQ.code ?_
  refine EW.condF (o := (.tmp 12)) (x := Cd42.r.r.l.r.l) (y := Cd42.r.r.l.r.r) (by kernel_rfl) (by kernel_rfl) ?_
  refine EW.skip (by kernel_rfl) ?_
  refine EQ.code ?_
  refine EW.seq (x := Cd42.r.r.r.l) (y := Cd42.r.r.r.r) (by kernel_rfl) ?_
  refine EW.region (id := 4) (ops := Cd42.r.r.r.l.ops) (by kernel_rfl) ?_
  refine EL.quick 1 [1, 14] [(1, .pointer (some ⟨g6003, 0, none⟩)), (14, .pointer (some ⟨g6003, 0, none⟩))] (by kernel_rfl) ?_
  obtain ⟨t6015, t6016, t6017, hc6020, H⟩ := b3_out H
  refine EL.of (EO.callD 46 [.pointer (some ⟨g6003, 0, none⟩), .int .i64 0, .int .i64 1] _ 15 (by kernel_rfl) (by kernel_rfl) (by kernel_rfl) (future_Futures_Make.calls hc6020 hS) ?_)
  rintro v w ⟨A6018, C6019, rfl, hS⟩
  refine EL.quick 5 [1, 2, 3] [(1, .pointer (some ⟨g6003, 0, none⟩)), (2, .int .i32 t6016), (3, .bool (t6017))] (by kernel_rfl) ?_
  refine EL.done (by kernel_rfl) ?_
  refine EQ.code ?_
  refine EW.seq (x := Cd42.r.r.r.r.l) (y := Cd42.r.r.r.r.r) (by kernel_rfl) ?_
  refine EW.region (id := 5) (ops := Cd42.r.r.r.r.l.ops) (by kernel_rfl) ?_
  refine EL.quick 2 [1, 2, 3, 18, 19] [(1, .pointer (some ⟨g6003, 0, none⟩)), (2, .int .i32 t6016), (3, .bool (t6017)), (18, .pointer (some ⟨g6003, 0, none⟩)), (19, .int .i32 t6016)] (by kernel_rfl) ?_
  obtain ⟨t6036, t6037, hc6040, H⟩ := b2_out H
  refine EL.of (EO.callD 48 [.pointer (some ⟨g6003, 0, none⟩), .int .i32 t6016, .int .i32 5] _ 20 (by kernel_rfl) (by kernel_rfl) (by kernel_rfl) (future_Futures_Keep.calls hc6040 hS) ?_)
  rintro v w ⟨A6038, C6039, rfl, hS⟩
  refine EL.quick 2 [1, 2, 3, 20, 21, 22] [(1, .pointer (some ⟨g6003, 0, none⟩)), (2, .int .i32 t6016), (3, .bool (t6017)), (20, .bool (t6037)), (21, .pointer (some ⟨g6003, 0, none⟩)), (22, .int .i32 t6016)] (by kernel_rfl) ?_
  obtain ⟨t6041, t6042, hc6045, H⟩ := b2_out H
  refine EL.of (EO.callD 48 [.pointer (some ⟨g6003, 0, none⟩), .int .i32 t6016, .int .i32 6] _ 23 (by kernel_rfl) (by kernel_rfl) (by kernel_rfl) (future_Futures_Keep.calls hc6045 hS) ?_)
  rintro v w ⟨A6043, C6044, rfl, hS⟩
  refine EL.quick 2 [1, 2, 3, 20, 23, 24, 25] [(1, .pointer (some ⟨g6003, 0, none⟩)), (2, .int .i32 t6016), (3, .bool (t6017)), (20, .bool (t6037)), (23, .bool (t6042)), (24, .pointer (some ⟨g6003, 0, none⟩)), (25, .int .i32 t6016)] (by kernel_rfl) ?_
  obtain ⟨t6046, t6047, hc6050, H⟩ := b2_out H
  refine EL.of (EO.callD 50 [.pointer (some ⟨g6003, 0, none⟩), .int .i32 t6016, .int .i64 7] _ 26 (by kernel_rfl) (by kernel_rfl) (by kernel_rfl) (future_Futures_Break.calls hc6050 hS) ?_)
  rintro v w ⟨A6048, C6049, rfl, hS⟩
  refine EL.quick 3 [1, 2, 3, 4, 5, 6] [(1, .pointer (some ⟨g6003, 0, none⟩)), (2, .int .i32 t6016), (3, .bool (t6017)), (4, .bool (t6037)), (5, .bool (t6042)), (6, .bool (t6047))] (by kernel_rfl) ?_
  refine EL.done (by kernel_rfl) ?_
  refine EQ.code ?_
  refine EW.seq (x := Cd42.r.r.r.r.r.l) (y := Cd42.r.r.r.r.r.r) (by kernel_rfl) ?_
  refine EW.region (id := 6) (ops := Cd42.r.r.r.r.r.l.ops) (by kernel_rfl) ?_
  refine EL.quick 2 [1, 3, 4, 5, 6, 28, 29] [(1, .pointer (some ⟨g6003, 0, none⟩)), (3, .bool (t6017)), (4, .bool (t6037)), (5, .bool (t6042)), (6, .bool (t6047)), (28, .pointer (some ⟨g6003, 0, none⟩)), (29, .int .i32 t6016)] (by kernel_rfl) ?_
  obtain ⟨t6055, t6056, hc6057, H⟩ := b2_out H
  refine EL.of (EO.callD 52 [.pointer (some ⟨g6003, 0, none⟩), .int .i32 t6016] _ 30 (by kernel_rfl) (by kernel_rfl) (by kernel_rfl) (future_Futures_Get.calls hc6057 hS) ?_)
  rintro v w ⟨rfl, hS⟩
  refine EL.quick 3 [1, 3, 4, 5, 6, 31, 32] [(1, .pointer (some ⟨g6003, 0, none⟩)), (3, .bool (t6017)), (4, .bool (t6037)), (5, .bool (t6042)), (6, .bool (t6047)), (31, .agg #[.int .i64 t6055.f0, .int .i64 t6055.f1, .int .i32 t6055.f2, .int .i64 t6055.f3]), (32, .bool (t6056))] (by kernel_rfl) ?_
  refine EL.of (EO.alloc hS 75 (.agg #[.int .i64 0, .int .i64 0, .int .i32 0, .int .i64 0]) [.int .i64 0, .int .i64 0, .int .i32 0, .int .i64 0] 7 (by kernel_rfl) (by kernel_rfl) (by kernel_rfl) (by kernel_rfl) (by first | rfl | kernel_rfl) ?_)
  intro g6058 w hS
  refine EL.of (EO.storeBox (os' := Ass.box 75 g6058 [.int .i64 t6055.f0, .int .i64 t6055.f1, .int .i32 t6055.f2, .int .i64 t6055.f3] :: Ass.box 99 g6003 [.slice A6048 t6046.length C6049, .slice A6006 t6002.length C6007] :: Ass.deep 87 75 kS75 A6048 C6049 t6046 :: Ass.own 3 (Kd.int .i64) A6006 C6007 t6002 :: os) hS 0 rfl 75 0 (.agg #[.int .i64 t6055.f0, .int .i64 t6055.f1, .int .i32 t6055.f2, .int .i64 t6055.f3]) [.int .i64 t6055.f0, .int .i64 t6055.f1, .int .i32 t6055.f2, .int .i64 t6055.f3] (by kernel_rfl) (by kernel_rfl) (by kernel_rfl) (by kernel_rfl) (by kernel_rfl) (by kernel_rfl) rfl rfl ?_)
  intro w hS
  refine EL.quick 1 [1, 3, 4, 5, 6, 7, 8] [(1, .pointer (some ⟨g6003, 0, none⟩)), (3, .bool (t6017)), (4, .bool (t6037)), (5, .bool (t6042)), (6, .bool (t6047)), (7, .pointer (some ⟨g6058, 0, none⟩)), (8, .bool (t6056))] (by kernel_rfl) ?_
  refine EL.done (by kernel_rfl) ?_
  refine EQ.code ?_
  refine EW.seq (x := Cd42.r.r.r.r.r.r.l) (y := Cd42.r.r.r.r.r.r.r) (by kernel_rfl) ?_
  refine EW.region (id := 7) (ops := Cd42.r.r.r.r.r.r.l.ops) (by kernel_rfl) ?_
  refine EL.quick 2 [1, 4, 5, 6, 7, 8, 34] [(1, .pointer (some ⟨g6003, 0, none⟩)), (4, .bool (t6037)), (5, .bool (t6042)), (6, .bool (t6047)), (7, .pointer (some ⟨g6058, 0, none⟩)), (8, .bool (t6056)), (34, .bool (t6017))] (by kernel_rfl) ?_
  by_cases h6059 : t6017 = true
  · rw [if_pos h6059] at H
    refine EL.keep [1, 4, 5, 6, 7, 8, 34] [(1, .pointer (some ⟨g6003, 0, none⟩)), (4, .bool (t6037)), (5, .bool (t6042)), (6, .bool (t6047)), (7, .pointer (some ⟨g6058, 0, none⟩)), (8, .bool (t6056)), (34, .bool (t6017))] (by kernel_rfl) ?_
    refine EL.as' [(1, .pointer (some ⟨g6003, 0, none⟩)), (4, .bool (t6037)), (5, .bool (t6042)), (6, .bool (t6047)), (7, .pointer (some ⟨g6058, 0, none⟩)), (8, .bool (t6056)), (34, .bool (true))] (by simp only [h6059, Bool.not_true, Bool.not_false]) ?_
    refine EL.quick 3 [1, 5, 6, 7, 8, 37] [(1, .pointer (some ⟨g6003, 0, none⟩)), (5, .bool (t6042)), (6, .bool (t6047)), (7, .pointer (some ⟨g6058, 0, none⟩)), (8, .bool (t6056)), (37, .bool (t6037))] (by kernel_rfl) ?_
    by_cases h6060 : t6037 = true
    · rw [if_pos h6060] at H
      refine EL.keep [1, 5, 6, 7, 8, 37] [(1, .pointer (some ⟨g6003, 0, none⟩)), (5, .bool (t6042)), (6, .bool (t6047)), (7, .pointer (some ⟨g6058, 0, none⟩)), (8, .bool (t6056)), (37, .bool (t6037))] (by kernel_rfl) ?_
      refine EL.as' [(1, .pointer (some ⟨g6003, 0, none⟩)), (5, .bool (t6042)), (6, .bool (t6047)), (7, .pointer (some ⟨g6058, 0, none⟩)), (8, .bool (t6056)), (37, .bool (true))] (by simp only [h6060, Bool.not_true, Bool.not_false]) ?_
      refine EL.quick 4 [1, 6, 7, 8, 41] [(1, .pointer (some ⟨g6003, 0, none⟩)), (6, .bool (t6047)), (7, .pointer (some ⟨g6058, 0, none⟩)), (8, .bool (t6056)), (41, .bool (!(t6042)))] (by kernel_rfl) ?_
      by_cases h6061 : t6042 = true
      · rw [if_pos h6061] at H
        refine EL.keep [1, 6, 7, 8, 41] [(1, .pointer (some ⟨g6003, 0, none⟩)), (6, .bool (t6047)), (7, .pointer (some ⟨g6058, 0, none⟩)), (8, .bool (t6056)), (41, .bool (!(t6042)))] (by kernel_rfl) ?_
        refine EL.as' [(1, .pointer (some ⟨g6003, 0, none⟩)), (6, .bool (t6047)), (7, .pointer (some ⟨g6058, 0, none⟩)), (8, .bool (t6056)), (41, .bool (false))] (by simp only [h6061, Bool.not_true, Bool.not_false]) ?_
        refine EL.quick 41 [0] [(0, .bool (false))] (by kernel_rfl) ?_
        refine EL.done (by kernel_rfl) ?_
        refine EQ.code ?_
        refine EW.ret (by kernel_rfl) ?_
        obtain rfl := Option.some.inj H
        exact EQ.leave (.bool (false)) (by kernel_rfl) ⟨_, rfl, rfl, (hS.re [] [0, 0, 0, 0] rfl (sub_tail (sub_tail (sub_self))))⟩
      · rw [if_neg h6061] at H
        refine EL.keep [1, 6, 7, 8, 41] [(1, .pointer (some ⟨g6003, 0, none⟩)), (6, .bool (t6047)), (7, .pointer (some ⟨g6058, 0, none⟩)), (8, .bool (t6056)), (41, .bool (!(t6042)))] (by kernel_rfl) ?_
        refine EL.as' [(1, .pointer (some ⟨g6003, 0, none⟩)), (6, .bool (t6047)), (7, .pointer (some ⟨g6058, 0, none⟩)), (8, .bool (t6056)), (41, .bool (true))] (by simp only [(Bool.eq_false_iff.2 h6061), Bool.not_true, Bool.not_false]) ?_
        refine EL.quick 4 [1, 7, 8, 45] [(1, .pointer (some ⟨g6003, 0, none⟩)), (7, .pointer (some ⟨g6058, 0, none⟩)), (8, .bool (t6056)), (45, .bool (!(t6047)))] (by kernel_rfl) ?_
        by_cases h6062 : t6047 = true
        · rw [if_pos h6062] at H
          refine EL.keep [1, 7, 8, 45] [(1, .pointer (some ⟨g6003, 0, none⟩)), (7, .pointer (some ⟨g6058, 0, none⟩)), (8, .bool (t6056)), (45, .bool (!(t6047)))] (by kernel_rfl) ?_
          refine EL.as' [(1, .pointer (some ⟨g6003, 0, none⟩)), (7, .pointer (some ⟨g6058, 0, none⟩)), (8, .bool (t6056)), (45, .bool (false))] (by simp only [h6062, Bool.not_true, Bool.not_false]) ?_
          refine EL.quick 37 [0] [(0, .bool (false))] (by kernel_rfl) ?_
          refine EL.done (by kernel_rfl) ?_
          refine EQ.code ?_
          refine EW.ret (by kernel_rfl) ?_
          obtain rfl := Option.some.inj H
          exact EQ.leave (.bool (false)) (by kernel_rfl) ⟨_, rfl, rfl, (hS.re [] [0, 0, 0, 0] rfl (sub_tail (sub_tail (sub_self))))⟩
        · rw [if_neg h6062] at H
          refine EL.keep [1, 7, 8, 45] [(1, .pointer (some ⟨g6003, 0, none⟩)), (7, .pointer (some ⟨g6058, 0, none⟩)), (8, .bool (t6056)), (45, .bool (!(t6047)))] (by kernel_rfl) ?_
          refine EL.as' [(1, .pointer (some ⟨g6003, 0, none⟩)), (7, .pointer (some ⟨g6058, 0, none⟩)), (8, .bool (t6056)), (45, .bool (true))] (by simp only [(Bool.eq_false_iff.2 h6062), Bool.not_true, Bool.not_false]) ?_
          refine EL.quick 3 [1, 7, 48] [(1, .pointer (some ⟨g6003, 0, none⟩)), (7, .pointer (some ⟨g6058, 0, none⟩)), (48, .bool (t6056))] (by kernel_rfl) ?_
          by_cases h6063 : t6056 = true
          · rw [if_pos h6063] at H
            refine EL.keep [1, 7, 48] [(1, .pointer (some ⟨g6003, 0, none⟩)), (7, .pointer (some ⟨g6058, 0, none⟩)), (48, .bool (t6056))] (by kernel_rfl) ?_
            refine EL.as' [(1, .pointer (some ⟨g6003, 0, none⟩)), (7, .pointer (some ⟨g6058, 0, none⟩)), (48, .bool (true))] (by simp only [h6063, Bool.not_true, Bool.not_false]) ?_
            refine EL.quick 1 [1, 7, 48, 49] [(1, .pointer (some ⟨g6003, 0, none⟩)), (7, .pointer (some ⟨g6058, 0, none⟩)), (48, .bool (true)), (49, .pointer (some ⟨g6058, 1, none⟩))] (by kernel_rfl) ?_
            refine EL.of (EO.Y (YO.loadBox hS 0 rfl 3 1 1 (.int .i64 t6055.f1) 50 (by kernel_rfl) (by kernel_rfl) (by kernel_rfl) (by kernel_rfl)) ?_)
            refine EL.quick 3 [1, 7, 53] [(1, .pointer (some ⟨g6003, 0, none⟩)), (7, .pointer (some ⟨g6058, 0, none⟩)), (53, .bool (decide (t6055.f1 = 1)))] (by kernel_rfl) ?_
            by_cases h6064 : t6055.f1 = 1
            · rw [if_pos h6064] at H
              refine EL.keep [1, 7, 53] [(1, .pointer (some ⟨g6003, 0, none⟩)), (7, .pointer (some ⟨g6058, 0, none⟩)), (53, .bool (decide (t6055.f1 = 1)))] (by kernel_rfl) ?_
              refine EL.as' [(1, .pointer (some ⟨g6003, 0, none⟩)), (7, .pointer (some ⟨g6058, 0, none⟩)), (53, .bool (true))] (by simp only [dec_t h6064, Bool.not_true, Bool.not_false]) ?_
              refine EL.quick 1 [1, 7, 53, 54] [(1, .pointer (some ⟨g6003, 0, none⟩)), (7, .pointer (some ⟨g6058, 0, none⟩)), (53, .bool (true)), (54, .pointer (some ⟨g6058, 2, none⟩))] (by kernel_rfl) ?_
              refine EL.of (EO.Y (YO.loadBox hS 0 rfl 21 2 1 (.int .i32 t6055.f2) 55 (by kernel_rfl) (by kernel_rfl) (by kernel_rfl) (by kernel_rfl)) ?_)
              refine EL.quick 3 [1, 7, 58] [(1, .pointer (some ⟨g6003, 0, none⟩)), (7, .pointer (some ⟨g6058, 0, none⟩)), (58, .bool (decide (t6055.f2 = 5)))] (by kernel_rfl) ?_
              by_cases h6065 : t6055.f2 = 5
              · rw [if_pos h6065] at H
                refine EL.keep [1, 7, 58] [(1, .pointer (some ⟨g6003, 0, none⟩)), (7, .pointer (some ⟨g6058, 0, none⟩)), (58, .bool (decide (t6055.f2 = 5)))] (by kernel_rfl) ?_
                refine EL.as' [(1, .pointer (some ⟨g6003, 0, none⟩)), (7, .pointer (some ⟨g6058, 0, none⟩)), (58, .bool (true))] (by simp only [dec_t h6065, Bool.not_true, Bool.not_false]) ?_
                refine EL.quick 1 [1, 58, 59] [(1, .pointer (some ⟨g6003, 0, none⟩)), (58, .bool (true)), (59, .pointer (some ⟨g6058, 0, none⟩))] (by kernel_rfl) ?_
                refine EL.of (EO.Y (YO.loadBox hS 0 rfl 3 0 1 (.int .i64 t6055.f0) 60 (by kernel_rfl) (by kernel_rfl) (by kernel_rfl) (by kernel_rfl)) ?_)
                refine EL.quick 3 [1, 63] [(1, .pointer (some ⟨g6003, 0, none⟩)), (63, .bool (decide (t6055.f0 = 1)))] (by kernel_rfl) ?_
                by_cases h6066 : t6055.f0 = 1
                · rw [if_pos h6066] at H
                  refine EL.keep [1, 63] [(1, .pointer (some ⟨g6003, 0, none⟩)), (63, .bool (decide (t6055.f0 = 1)))] (by kernel_rfl) ?_
                  refine EL.as' [(1, .pointer (some ⟨g6003, 0, none⟩)), (63, .bool (true))] (by simp only [dec_t h6066, Bool.not_true, Bool.not_false]) ?_
                  refine EL.quick 1 [1, 63, 64] [(1, .pointer (some ⟨g6003, 0, none⟩)), (63, .bool (true)), (64, .pointer (some ⟨g6003, 0, none⟩))] (by kernel_rfl) ?_
                  have hS : St B _ (Ass.box 99 g6003 [.slice A6048 t6046.length C6049, .slice A6006 t6002.length C6007] :: Ass.deep 87 75 kS75 A6048 C6049 t6046 :: Ass.own 3 (Kd.int .i64) A6006 C6007 t6002 :: Ass.box 75 g6058 [.int .i64 t6055.f0, .int .i64 t6055.f1, .int .i32 t6055.f2, .int .i64 t6055.f3] :: os) (Ro.sl (Kd.int .i64) (some ⟨g5999, 0, none⟩) 1 l6000 :: Ro.sl (Kd.int .i64) (some ⟨g5999, 0, none⟩) 1 l6000 :: rs) := hS.re [3, 3, 3] [] rfl sub_self
                  obtain ⟨t6067, hc6068, H⟩ := b1_out H
                  refine EL.of (EO.callD 54 [.pointer (some ⟨g6003, 0, none⟩), .int .i64 0] _ 65 (by kernel_rfl) (by kernel_rfl) (by kernel_rfl) (future_Futures_Count.calls hc6068 hS) ?_)
                  rintro v w ⟨rfl, hS⟩
                  refine EL.quick 3 [1, 68] [(1, .pointer (some ⟨g6003, 0, none⟩)), (68, .bool (decide (t6067 = 1)))] (by kernel_rfl) ?_
                  by_cases h6069 : t6067 = 1
                  · rw [if_pos h6069] at H
                    refine EL.keep [1, 68] [(1, .pointer (some ⟨g6003, 0, none⟩)), (68, .bool (decide (t6067 = 1)))] (by kernel_rfl) ?_
                    refine EL.as' [(1, .pointer (some ⟨g6003, 0, none⟩)), (68, .bool (true))] (by simp only [dec_t h6069, Bool.not_true, Bool.not_false]) ?_
                    refine EL.quick 1 [1, 68, 69] [(1, .pointer (some ⟨g6003, 0, none⟩)), (68, .bool (true)), (69, .pointer (some ⟨g6003, 0, none⟩))] (by kernel_rfl) ?_
                    obtain ⟨t6070, hc6073, H⟩ := b1_out H
                    refine EL.of (EO.callD 57 [.pointer (some ⟨g6003, 0, none⟩)] _ 70 (by kernel_rfl) (by kernel_rfl) (by kernel_rfl) (future_Futures_All.calls hc6073 hS) ?_)
                    rintro v w ⟨A6071, C6072, rfl, hS⟩
                    refine EL.quick 4 [1, 74] [(1, .pointer (some ⟨g6003, 0, none⟩)), (74, .bool (decide ((t6070.length : Int) = 1)))] (by kernel_rfl) ?_
                    by_cases h6074 : (t6070.length : Int) = 1
                    · rw [if_pos h6074] at H
                      refine EL.keep [1, 74] [(1, .pointer (some ⟨g6003, 0, none⟩)), (74, .bool (decide ((t6070.length : Int) = 1)))] (by kernel_rfl) ?_
                      refine EL.as' [(1, .pointer (some ⟨g6003, 0, none⟩)), (74, .bool (true))] (by simp only [dec_t h6074, Bool.not_true, Bool.not_false]) ?_
                      refine EL.quick 1 [74, 75] [(74, .bool (true)), (75, .pointer (some ⟨g6003, 0, none⟩))] (by kernel_rfl) ?_
                      obtain ⟨t6075, hc6078, H⟩ := b1_out H
                      refine EL.of (EO.callD 57 [.pointer (some ⟨g6003, 0, none⟩)] _ 76 (by kernel_rfl) (by kernel_rfl) (by kernel_rfl) (future_Futures_All.calls hc6078 hS) ?_)
                      rintro v w ⟨A6076, C6077, rfl, hS⟩
                      obtain ⟨h6079, H⟩ := ite_in H
                      obtain ⟨ad6080, rfl⟩ := St.deep_some hS 3 rfl (by decide) h6079
                      refine EL.of (EO.Y (YO.idx 80 1 ad6080 t6075.length C6077 .i64 0 77 (by kernel_rfl) (by kernel_rfl) (by kernel_rfl) (by kernel_rfl) (by decide) h6079) ?_)
                      refine EL.of (EO.openEl hS 3 ad6080 rfl 0 (by decide) h6079 (fun A6081 C6082 => Ass.box 99 g6003 [.slice A6048 t6046.length C6049, .slice A6006 t6002.length C6007] :: Ass.deep 87 75 kS75 A6048 C6049 t6046 :: Ass.own 3 (Kd.int .i64) A6006 C6007 t6002 :: Ass.holed 87 75 kS75 (some ad6080) C6077 t6075 (0 : Int).toNat (A6081, (t6075.getD (0 : Int).toNat []).length, C6082) :: Ass.deep 87 75 kS75 A6071 C6072 t6070 :: Ass.box 75 g6058 [.int .i64 t6055.f0, .int .i64 t6055.f1, .int .i32 t6055.f2, .int .i64 t6055.f3] :: os) 87 78 (by kernel_rfl) (by kernel_rfl) (by kernel_rfl) (by kernel_rfl) (fun _ _ => rfl) ?_)
                      intro A6081 C6082 hS
                      refine EL.quick 4 [0] [(0, .bool (decide (((t6075.getD (0 : Int).toNat []).length : Int) = 1)))] (by kernel_rfl) ?_
                      refine EL.done (by kernel_rfl) ?_
                      refine EQ.code ?_
                      refine EW.ret (by kernel_rfl) ?_
                      have hS := St.as (os' := Ass.box 99 g6003 [.slice A6048 t6046.length C6049, .slice A6006 t6002.length C6007] :: Ass.deep 87 75 kS75 A6048 C6049 t6046 :: Ass.own 3 (Kd.int .i64) A6006 C6007 t6002 :: Ass.deep 87 75 kS75 (some ad6080) C6077 t6075 :: Ass.deep 87 75 kS75 A6071 C6072 t6070 :: Ass.box 75 g6058 [.int .i64 t6055.f0, .int .i64 t6055.f1, .int .i32 t6055.f2, .int .i64 t6055.f3] :: os) (St.close hS 0 3 rfl rfl rfl t6075 (set_getD _ _)) rfl
                      obtain rfl := Option.some.inj H
                      exact EQ.leave (.bool (decide (((t6075.getD (0 : Int).toNat []).length : Int) = 1))) (by kernel_rfl) ⟨_, rfl, rfl, (hS.re [] [0, 0, 0, 0, 0, 0] rfl (sub_tail (sub_tail (sub_self))))⟩
                    · rw [if_neg h6074] at H
                      refine EL.keep [1, 74] [(1, .pointer (some ⟨g6003, 0, none⟩)), (74, .bool (decide ((t6070.length : Int) = 1)))] (by kernel_rfl) ?_
                      refine EL.as' [(1, .pointer (some ⟨g6003, 0, none⟩)), (74, .bool (false))] (by simp only [dec_f h6074, Bool.not_true, Bool.not_false]) ?_
                      refine EL.quick 8 [0] [(0, .bool (false))] (by kernel_rfl) ?_
                      refine EL.done (by kernel_rfl) ?_
                      refine EQ.code ?_
                      refine EW.ret (by kernel_rfl) ?_
                      obtain rfl := Option.some.inj H
                      exact EQ.leave (.bool (false)) (by kernel_rfl) ⟨_, rfl, rfl, (hS.re [] [0, 0, 0, 0, 0] rfl (sub_tail (sub_tail (sub_self))))⟩
                  · rw [if_neg h6069] at H
                    refine EL.keep [1, 68] [(1, .pointer (some ⟨g6003, 0, none⟩)), (68, .bool (decide (t6067 = 1)))] (by kernel_rfl) ?_
                    refine EL.as' [(1, .pointer (some ⟨g6003, 0, none⟩)), (68, .bool (false))] (by simp only [dec_f h6069, Bool.not_true, Bool.not_false]) ?_
                    refine EL.quick 14 [0] [(0, .bool (false))] (by kernel_rfl) ?_
                    refine EL.done (by kernel_rfl) ?_
                    refine EQ.code ?_
                    refine EW.ret (by kernel_rfl) ?_
                    obtain rfl := Option.some.inj H
                    exact EQ.leave (.bool (false)) (by kernel_rfl) ⟨_, rfl, rfl, (hS.re [] [0, 0, 0, 0] rfl (sub_tail (sub_tail (sub_self))))⟩
                · rw [if_neg h6066] at H
                  refine EL.keep [1, 63] [(1, .pointer (some ⟨g6003, 0, none⟩)), (63, .bool (decide (t6055.f0 = 1)))] (by kernel_rfl) ?_
                  refine EL.as' [(1, .pointer (some ⟨g6003, 0, none⟩)), (63, .bool (false))] (by simp only [dec_f h6066, Bool.not_true, Bool.not_false]) ?_
                  refine EL.quick 19 [0] [(0, .bool (false))] (by kernel_rfl) ?_
                  refine EL.done (by kernel_rfl) ?_
                  refine EQ.code ?_
                  refine EW.ret (by kernel_rfl) ?_
                  obtain rfl := Option.some.inj H
                  exact EQ.leave (.bool (false)) (by kernel_rfl) ⟨_, rfl, rfl, (hS.re [] [0, 0, 0, 0] rfl (sub_tail (sub_tail (sub_self))))⟩
              · rw [if_neg h6065] at H
                refine EL.keep [1, 7, 58] [(1, .pointer (some ⟨g6003, 0, none⟩)), (7, .pointer (some ⟨g6058, 0, none⟩)), (58, .bool (decide (t6055.f2 = 5)))] (by kernel_rfl) ?_
                refine EL.as' [(1, .pointer (some ⟨g6003, 0, none⟩)), (7, .pointer (some ⟨g6058, 0, none⟩)), (58, .bool (false))] (by simp only [dec_f h6065, Bool.not_true, Bool.not_false]) ?_
                refine EL.quick 24 [0] [(0, .bool (false))] (by kernel_rfl) ?_
                refine EL.done (by kernel_rfl) ?_
                refine EQ.code ?_
                refine EW.ret (by kernel_rfl) ?_
                obtain rfl := Option.some.inj H
                exact EQ.leave (.bool (false)) (by kernel_rfl) ⟨_, rfl, rfl, (hS.re [] [0, 0, 0, 0] rfl (sub_tail (sub_tail (sub_self))))⟩
            · rw [if_neg h6064] at H
              refine EL.keep [1, 7, 53] [(1, .pointer (some ⟨g6003, 0, none⟩)), (7, .pointer (some ⟨g6058, 0, none⟩)), (53, .bool (decide (t6055.f1 = 1)))] (by kernel_rfl) ?_
              refine EL.as' [(1, .pointer (some ⟨g6003, 0, none⟩)), (7, .pointer (some ⟨g6058, 0, none⟩)), (53, .bool (false))] (by simp only [dec_f h6064, Bool.not_true, Bool.not_false]) ?_
              refine EL.quick 29 [0] [(0, .bool (false))] (by kernel_rfl) ?_
              refine EL.done (by kernel_rfl) ?_
              refine EQ.code ?_
              refine EW.ret (by kernel_rfl) ?_
              obtain rfl := Option.some.inj H
              exact EQ.leave (.bool (false)) (by kernel_rfl) ⟨_, rfl, rfl, (hS.re [] [0, 0, 0, 0] rfl (sub_tail (sub_tail (sub_self))))⟩
          · rw [if_neg h6063] at H
            refine EL.keep [1, 7, 48] [(1, .pointer (some ⟨g6003, 0, none⟩)), (7, .pointer (some ⟨g6058, 0, none⟩)), (48, .bool (t6056))] (by kernel_rfl) ?_
            refine EL.as' [(1, .pointer (some ⟨g6003, 0, none⟩)), (7, .pointer (some ⟨g6058, 0, none⟩)), (48, .bool (false))] (by simp only [(Bool.eq_false_iff.2 h6063), Bool.not_true, Bool.not_false]) ?_
            refine EL.quick 34 [0] [(0, .bool (false))] (by kernel_rfl) ?_
            refine EL.done (by kernel_rfl) ?_
            refine EQ.code ?_
            refine EW.ret (by kernel_rfl) ?_
            obtain rfl := Option.some.inj H
            exact EQ.leave (.bool (false)) (by kernel_rfl) ⟨_, rfl, rfl, (hS.re [] [0, 0, 0, 0] rfl (sub_tail (sub_tail (sub_self))))⟩
    · rw [if_neg h6060] at H
      refine EL.keep [1, 5, 6, 7, 8, 37] [(1, .pointer (some ⟨g6003, 0, none⟩)), (5, .bool (t6042)), (6, .bool (t6047)), (7, .pointer (some ⟨g6058, 0, none⟩)), (8, .bool (t6056)), (37, .bool (t6037))] (by kernel_rfl) ?_
      refine EL.as' [(1, .pointer (some ⟨g6003, 0, none⟩)), (5, .bool (t6042)), (6, .bool (t6047)), (7, .pointer (some ⟨g6058, 0, none⟩)), (8, .bool (t6056)), (37, .bool (false))] (by simp only [(Bool.eq_false_iff.2 h6060), Bool.not_true, Bool.not_false]) ?_
      refine EL.quick 45 [0] [(0, .bool (false))] (by kernel_rfl) ?_
      refine EL.done (by kernel_rfl) ?_
      refine EQ.code ?_
      refine EW.ret (by kernel_rfl) ?_
      obtain rfl := Option.some.inj H
      exact EQ.leave (.bool (false)) (by kernel_rfl) ⟨_, rfl, rfl, (hS.re [] [0, 0, 0, 0] rfl (sub_tail (sub_tail (sub_self))))⟩
  · rw [if_neg h6059] at H
    refine EL.keep [1, 4, 5, 6, 7, 8, 34] [(1, .pointer (some ⟨g6003, 0, none⟩)), (4, .bool (t6037)), (5, .bool (t6042)), (6, .bool (t6047)), (7, .pointer (some ⟨g6058, 0, none⟩)), (8, .bool (t6056)), (34, .bool (t6017))] (by kernel_rfl) ?_
    refine EL.as' [(1, .pointer (some ⟨g6003, 0, none⟩)), (4, .bool (t6037)), (5, .bool (t6042)), (6, .bool (t6047)), (7, .pointer (some ⟨g6058, 0, none⟩)), (8, .bool (t6056)), (34, .bool (false))] (by simp only [(Bool.eq_false_iff.2 h6059), Bool.not_true, Bool.not_false]) ?_
    refine EL.quick 48 [0] [(0, .bool (false))] (by kernel_rfl) ?_
    refine EL.done (by kernel_rfl) ?_
    refine EQ.code ?_
    refine EW.ret (by kernel_rfl) ?_
    obtain rfl := Option.some.inj H
    exact EQ.leave (.bool (false)) (by kernel_rfl) ⟨_, rfl, rfl, (hS.re [] [0, 0, 0, 0] rfl (sub_tail (sub_tail (sub_self))))⟩

/-! ### confidant/confidanthelp.Place: function 43 -/
def confidanthelp_Place.f (K : Nat) (a6110 : Int) (a6111 : Int) : Option Int := if a6111 = 0 then none else (if (Int.tmod a6110 a6111) < 0 then (some (IntKind.i64.wrap ((Int.tmod a6110 a6111) + a6111))) else (some (Int.tmod a6110 a6111)))
set_option maxRecDepth 100000 in
theorem confidanthelp_Place.calls {K : Nat} {a6110 : Int} {a6111 : Int} {x6115 : Int} {B w : World} {os : List Ass} {rs : List Ro} (H : confidanthelp_Place.f K a6110 a6111 = some x6115) (hS : St B w (os) (rs)) :
    Calls Try.prog 43 [.int .i64 a6110, .int .i64 a6111].toArray w (fun en w' => ∃ v, en = .returned v ∧ v = .int .i64 x6115 ∧ St B w' (os) (rs)) := by
  unfold confidanthelp_Place.f at H
  refine calls_of_EW (args := [.int .i64 a6110, .int .i64 a6111]) (c := Cd43) 14 Try.func43 (by kernel_rfl) (by kernel_rfl) (by kernel_rfl) ?_
  refine EW.seq (x := Cd43.l) (y := Cd43.r) (by kernel_rfl) ?_
  refine EW.region (id := 0) (ops := Cd43.l.ops) (by kernel_rfl) ?_
  refine EL.quick 1 [0, 1] [(0, .int .i64 a6110), (1, .int .i64 a6111)] (by kernel_rfl) ?_
  refine EL.done (by kernel_rfl) ?_
  refine EQ.code ?_
  refine EW.seq (x := Cd43.r.l) (y := Cd43.r.r) (by kernel_rfl) ?_
  refine EW.region (id := 1) (ops := Cd43.r.l.ops) (by kernel_rfl) ?_
  refine EL.quick 2 [1, 5, 6] [(1, .int .i64 a6111), (5, .int .i64 a6110), (6, .int .i64 a6111)] (by kernel_rfl) ?_
  obtain ⟨h6117, H⟩ := ite_out H
  refine EL.of (EO.Y (YO.div .rem .i64 a6110 a6111 (Int.tmod a6110 a6111) 7 (by kernel_rfl) (by kernel_rfl) (by kernel_rfl) h6117 (by first | exact .inl ⟨rfl, rfl⟩ | exact .inr ⟨rfl, rfl⟩)) ?_)
  refine EL.quick 1 [0, 1] [(0, .int .i64 (Int.tmod a6110 a6111)), (1, .int .i64 a6111)] (by kernel_rfl) ?_
  refine EL.done (by kernel_rfl) ?_
  refine EQ.code ?_
  refine EW.seq (x := Cd43.r.r.l) (y := Cd43.r.r.r) (by kernel_rfl) ?_
  refine EW.seq (x := Cd43.r.r.l.l) (y := Cd43.r.r.l.r) (by kernel_rfl) ?_
  refine EW.region (id := 2) (ops := Cd43.r.r.l.l.ops) (by kernel_rfl) ?_
  refine EL.quick 2 [0, 1, 9] [(0, .int .i64 (Int.tmod a6110 a6111)), (1, .int .i64 a6111), (9, .bool (decide ((Int.tmod a6110 a6111) < 0)))] (by kernel_rfl) ?_
  refine EL.done (by kernel_rfl) ?_
  refine EQ.code ?_
  refine EW.condP (o := (.tmp 9)) (x := Cd43.r.r.l.r.l) (y := Cd43.r.r.l.r.r) ((Int.tmod a6110 a6111) < 0) (by kernel_rfl) (by kernel_rfl) (fun h6118 => ?_) (fun h6118 => ?_)
  · rw [if_pos h6118] at H
    refine EW.region (id := 3) (ops := Cd43.r.r.l.r.l.ops) (by kernel_rfl) ?_
    refine EL.quick 4 [0] [(0, .int .i64 (IntKind.i64.wrap ((Int.tmod a6110 a6111) + a6111)))] (by kernel_rfl) ?_
    refine EL.done (by kernel_rfl) ?_
    refine EQ.code ?_
    refine EW.seq (x := Cd43.r.r.r.l) (y := Cd43.r.r.r.r) (by kernel_rfl) ?_
    refine EW.region (id := 4) (ops := Cd43.r.r.r.l.ops) (by kernel_rfl) ?_
    refine EL.quick 2 [4] [(4, .int .i64 (IntKind.i64.wrap ((Int.tmod a6110 a6111) + a6111)))] (by kernel_rfl) ?_
    refine EL.done (by kernel_rfl) ?_
    refine EQ.code ?_
    refine EW.ret (by kernel_rfl) ?_
    obtain rfl := Option.some.inj H
    exact EQ.leave (.int .i64 (IntKind.i64.wrap ((Int.tmod a6110 a6111) + a6111))) (by kernel_rfl) ⟨_, rfl, rfl, (hS.re [] [] rfl (sub_self))⟩
  · rw [if_neg h6118] at H
    refine EW.skip (by kernel_rfl) ?_
    refine EQ.code ?_
    refine EW.seq (x := Cd43.r.r.r.l) (y := Cd43.r.r.r.r) (by kernel_rfl) ?_
    refine EW.region (id := 4) (ops := Cd43.r.r.r.l.ops) (by kernel_rfl) ?_
    refine EL.quick 2 [4] [(4, .int .i64 (Int.tmod a6110 a6111))] (by kernel_rfl) ?_
    refine EL.done (by kernel_rfl) ?_
    refine EQ.code ?_
    refine EW.ret (by kernel_rfl) ?_
    obtain rfl := Option.some.inj H
    exact EQ.leave (.int .i64 (Int.tmod a6110 a6111)) (by kernel_rfl) ⟨_, rfl, rfl, (hS.re [] [] rfl (sub_self))⟩

/-! ### confidant/confidantref12.quotas: function 66 -/
def confidantref12_quotas.l0 (K : Nat) (l6510 : List Int) : Nat → (List Int) → Int → Option (List Int)
  | 0, _, _ => none
  | n + 1, x6768, x6772 => lt (fun (x6824 : Bool) => (if x6824 = true then (if 0 ≤ x6772 then (if x6772 < (l6510.length : Int) then (lt ([mn (mx (l6510.getD x6772.toNat 0) 0) 4096] : List Int) fun l6841 => (if (x6768.length + l6841.length) * 8 ≤ 140737488355328 then (lt (x6768 ++ l6841) fun l6843 => (confidantref12_quotas.l0 K l6510 n l6843 (IntKind.i64.wrap (x6772 + 1)))) else none)) else none) else none) else (some x6768))) fun j6825 => (if x6772 < (l6510.length : Int) then (j6825 (decide (x6772 < 16))) else (j6825 false))
def confidantref12_quotas.f (K : Nat) (l6510 : List Int) : Option (List Int) := confidantref12_quotas.l0 K l6510 K ([] : List Int) 0
set_option maxRecDepth 100000 in
theorem confidantref12_quotas.calls {K : Nat} {l6510 : List Int} {A6511 : Option Addr} {C6512 : Nat} {x6677 : List Int} {B w : World} {os : List Ass} {rs : List Ro} (H : confidantref12_quotas.f K l6510 = some x6677) (hS : St B w (os) (Ro.sl (Kd.int .i64) A6511 C6512 l6510 :: rs)) :
    Calls Try.prog 66 [.slice A6511 l6510.length C6512].toArray w (fun en w' => ∃ v, en = .returned v ∧ ∃ A6678 : Option Addr, ∃ C6679 : Nat, v = .slice A6678 x6677.length C6679 ∧ St B w' (Ass.own 3 (Kd.int .i64) A6678 C6679 x6677 :: os) (Ro.sl (Kd.int .i64) A6511 C6512 l6510 :: rs)) := by
  unfold confidantref12_quotas.f at H
  refine calls_of_EW (args := [.slice A6511 l6510.length C6512]) (c := Cd66) 25 Try.func66 (by kernel_rfl) (by kernel_rfl) (by kernel_rfl) ?_
  refine EW.seq (x := Cd66.l) (y := Cd66.r) (by kernel_rfl) ?_
  refine EW.region (id := 0) (ops := Cd66.l.ops) (by kernel_rfl) ?_
  refine EL.quick 1 [0] [(0, .slice A6511 l6510.length C6512)] (by kernel_rfl) ?_
  refine EL.done (by kernel_rfl) ?_
  refine EQ.code ?_
  refine EW.seq (x := Cd66.r.l) (y := Cd66.r.r) (by kernel_rfl) ?_
  refine EW.region (id := 1) (ops := Cd66.r.l.ops) (by kernel_rfl) ?_
  refine EL.quick 1 [0, 3] [(0, .slice A6511 l6510.length C6512), (3, .slice none ([] : List Int).length 0)] (by kernel_rfl) ?_
  refine EL.done (by kernel_rfl) ?_
  refine EQ.code ?_
  refine EW.seq (x := Cd66.r.r.l) (y := Cd66.r.r.r) (by kernel_rfl) ?_
  refine EW.seq (x := Cd66.r.r.l.l) (y := Cd66.r.r.l.r) (by kernel_rfl) ?_
  refine EW.region (id := 2) (ops := Cd66.r.r.l.l.ops) (by kernel_rfl) ?_
  refine EL.quick 1 [0, 3, 4] [(0, .slice A6511 l6510.length C6512), (3, .slice none ([] : List Int).length 0), (4, .int .i64 0)] (by kernel_rfl) ?_
  refine EL.done (by kernel_rfl) ?_
  refine EQ.code ?_
  refine EW.block (x := Cd66.r.r.l.r.l) (id := 0) (by kernel_rfl) ?_
  have hS := St.nilO hS 3 (Kd.int .i64)
  refine EW.loop (x := Cd66.r.r.l.r.l.l) (fun n a w => ∃ x6768 : List Int, ∃ x6772 : Int, ∃ A6769 : Option Addr, ∃ C6770 : Nat, Sat 25 [(0, .slice A6511 l6510.length C6512), (3, .slice A6769 x6768.length C6770), (4, .int .i64 x6772)] a ∧ St B w (Ass.own 3 (Kd.int .i64) A6769 C6770 x6768 :: os) (Ro.sl (Kd.int .i64) A6511 C6512 l6510 :: rs) ∧ confidantref12_quotas.l0 K l6510 n x6768 x6772 = some x6677) K (by kernel_rfl) ?_ (fun n a w hI => ?_)
  · refine EQ.keep [0, 3, 4] [(0, .slice A6511 l6510.length C6512), (3, .slice none ([] : List Int).length 0), (4, .int .i64 0)] (by kernel_rfl) ?_
    exact fun a ha => ⟨([] : List Int), 0, none, 0, ha, (hS.re [0] [] rfl (sub_cons 0 rfl (sub_tail (sub_self)))), H⟩
  · obtain ⟨x6768, x6772, A6769, C6770, ha, hS, H⟩ := hI
    obtain _ | n := n
    · simp [confidantref12_quotas.l0] at H
    rw [confidantref12_quotas.l0.eq_2] at H
    refine EW.at ?_ a ha
    clear ha a
    refine EW.seq (x := Cd66.r.r.l.r.l.l.l) (y := Cd66.r.r.l.r.l.l.r) (by kernel_rfl) ?_
    obtain ⟨j6825, hj6825, H⟩ := lt_out H
    refine EW.cut (x := Cd66.r.r.l.r.l.l.l.l) (y := Cd66.r.r.l.r.l.l.l.r) (fun a w => ∃ x6824 : Bool, Sat 25 [(0, .slice A6511 l6510.length C6512), (3, .slice A6769 x6768.length C6770), (4, .int .i64 x6772), (12, .bool (x6824))] a ∧ St B w (Ass.own 3 (Kd.int .i64) A6769 C6770 x6768 :: os) (Ro.sl (Kd.int .i64) A6511 C6512 l6510 :: rs) ∧ j6825 x6824 = some x6677) (by kernel_rfl) ?_ (fun a w hI => ?_)
    · refine EW.region (id := 3) (ops := Cd66.r.r.l.r.l.l.l.l.ops) (by kernel_rfl) ?_
      refine EL.quick 5 [0, 3, 4, 9] [(0, .slice A6511 l6510.length C6512), (3, .slice A6769 x6768.length C6770), (4, .int .i64 x6772), (9, .bool (decide (x6772 < (l6510.length : Int))))] (by kernel_rfl) ?_
      by_cases h6826 : x6772 < (l6510.length : Int)
      · rw [if_pos h6826] at H
        refine EL.keep [0, 3, 4, 9] [(0, .slice A6511 l6510.length C6512), (3, .slice A6769 x6768.length C6770), (4, .int .i64 x6772), (9, .bool (decide (x6772 < (l6510.length : Int))))] (by kernel_rfl) ?_
        refine EL.as' [(0, .slice A6511 l6510.length C6512), (3, .slice A6769 x6768.length C6770), (4, .int .i64 x6772), (9, .bool (true))] (by simp only [dec_t h6826, Bool.not_true, Bool.not_false]) ?_
        refine EL.quick 3 [0, 3, 4, 10, 11, 12] [(0, .slice A6511 l6510.length C6512), (3, .slice A6769 x6768.length C6770), (4, .int .i64 x6772), (10, .int .i64 x6772), (11, .bool (decide (x6772 < 16))), (12, .bool (decide (x6772 < 16)))] (by kernel_rfl) ?_
        refine EL.done (by kernel_rfl) ?_
        refine EQ.to ?_
        refine EQ.keep [0, 3, 4, 12] [(0, .slice A6511 l6510.length C6512), (3, .slice A6769 x6768.length C6770), (4, .int .i64 x6772), (12, .bool (decide (x6772 < 16)))] (by kernel_rfl) ?_
        exact fun a ha => ⟨decide (x6772 < 16), ha, (hS.re [0] [] rfl (sub_cons 0 rfl (sub_tail (sub_self)))), H⟩
      · rw [if_neg h6826] at H
        refine EL.keep [0, 3, 4, 9] [(0, .slice A6511 l6510.length C6512), (3, .slice A6769 x6768.length C6770), (4, .int .i64 x6772), (9, .bool (decide (x6772 < (l6510.length : Int))))] (by kernel_rfl) ?_
        refine EL.as' [(0, .slice A6511 l6510.length C6512), (3, .slice A6769 x6768.length C6770), (4, .int .i64 x6772), (9, .bool (false))] (by simp only [dec_f h6826, Bool.not_true, Bool.not_false]) ?_
        refine EL.quick 3 [0, 3, 4, 12] [(0, .slice A6511 l6510.length C6512), (3, .slice A6769 x6768.length C6770), (4, .int .i64 x6772), (12, .bool (false))] (by kernel_rfl) ?_
        refine EL.done (by kernel_rfl) ?_
        refine EQ.to ?_
        refine EQ.keep [0, 3, 4, 12] [(0, .slice A6511 l6510.length C6512), (3, .slice A6769 x6768.length C6770), (4, .int .i64 x6772), (12, .bool (false))] (by kernel_rfl) ?_
        exact fun a ha => ⟨false, ha, (hS.re [0] [] rfl (sub_cons 0 rfl (sub_tail (sub_self)))), H⟩
    · obtain ⟨x6824, ha, hS, H⟩ := hI
      rw [hj6825] at H
      (try dsimp only at H)
      refine EW.at ?_ a ha
      clear ha a
      refine EW.condP' (o := (.tmp 12)) (x := Cd66.r.r.l.r.l.l.l.r.l) (y := Cd66.r.r.l.r.l.l.l.r.r) (x6824) (by kernel_rfl) (by kernel_rfl) (fun h6827 => ?_) (fun h6827 => ?_)
      · rw [if_pos h6827] at H
        refine EW.skip (by kernel_rfl) ?_
        refine EQ.code ?_
        refine EW.seq (x := Cd66.r.r.l.r.l.l.r.l) (y := Cd66.r.r.l.r.l.l.r.r) (by kernel_rfl) ?_
        refine EW.block (x := Cd66.r.r.l.r.l.l.r.l.l) (id := 1) (by kernel_rfl) ?_
        refine EW.region (id := 5) (ops := Cd66.r.r.l.r.l.l.r.l.l.ops) (by kernel_rfl) ?_
        refine EL.quick 3 [0, 4, 15, 16, 17] [(0, .slice A6511 l6510.length C6512), (4, .int .i64 x6772), (15, .slice A6769 x6768.length C6770), (16, .slice A6511 l6510.length C6512), (17, .int .i64 x6772)] (by kernel_rfl) ?_
        obtain ⟨h6837, H⟩ := ite_in H
        obtain ⟨h6838, H⟩ := ite_in H
        obtain ⟨ad6839, rfl⟩ := St.rd_some hS (Rd.ro 0 rfl) h6837 h6838
        refine EL.of (EO.Y (YO.idx 24 1 ad6839 l6510.length C6512 .i64 x6772 18 (by kernel_rfl) (by kernel_rfl) (by kernel_rfl) (by kernel_rfl) h6837 h6838) ?_)
        refine EL.of (EO.Y (YO.loadEl hS (Kd.int .i64) ad6839 C6512 l6510 (Rd.ro 0 rfl) 0 (encI .i64) encI_of x6772 h6837 h6838 3 1 0 1 rfl (.int .i64 (l6510.getD x6772.toNat 0)) 19 (by kernel_rfl) (by kernel_rfl) (by kernel_rfl) (by kernel_rfl)) ?_)
        refine EL.quick 2 [0, 4, 15, 21] [(0, .slice (some ad6839) l6510.length C6512), (4, .int .i64 x6772), (15, .slice A6769 x6768.length C6770), (21, .int .i64 (mn (mx (l6510.getD x6772.toNat 0) 0) 4096))] (by kernel_rfl) ?_
        obtain ⟨l6841, hl6841, H⟩ := lt_out H
        refine EL.of (EO.lit hS (Kd.int .i64) 3 24 1 #[(0, .int .i64 (mn (mx (l6510.getD x6772.toNat 0) 0) 4096))] [.int .i64 (mn (mx (l6510.getD x6772.toNat 0) 0) 4096)] l6841 22 (by kernel_rfl) (by kernel_rfl) (by kernel_rfl) (fun _ => (by kernel_rfl)) (by rw [hl6841]; rfl) (by kernel_rfl) (fun w G hr => (by rw [hl6841]; exact ⟨[.int .i64 (mn (mx (l6510.getD x6772.toNat 0) 0) 4096)], [], rfl, rfl, rfl⟩)) ?_)
        intro g6840 w hS
        obtain ⟨h6842, H⟩ := ite_in H
        obtain ⟨l6843, hl6843, H⟩ := lt_out H
        refine EL.of (EO.append hS 24 24 3 8 1 (Kd.int .i64) A6769 C6770 x6768 rfl (some ⟨g6840, 0, none⟩) 1 l6841 (Rd.own 0 3 rfl) l6843 hl6843 (fun A6844 C6845 => Ass.own 3 (Kd.int .i64) (some ⟨g6840, 0, none⟩) 1 l6841 :: Ass.own 3 (Kd.int .i64) A6844 C6845 l6843 :: os) 23 (by kernel_rfl) (by kernel_rfl) (by kernel_rfl) (by kernel_rfl) h6842 (fun _ _ => rfl) ?_)
        intro A6844 C6845 w hS
        refine EL.quick 1 [0, 3, 4] [(0, .slice (some ad6839) l6510.length C6512), (3, .slice A6844 l6843.length C6845), (4, .int .i64 x6772)] (by kernel_rfl) ?_
        refine EL.done (by kernel_rfl) ?_
        refine EQ.pop ?_
        refine EQ.code ?_
        refine EW.region (id := 4) (ops := Cd66.r.r.l.r.l.l.r.r.ops) (by kernel_rfl) ?_
        refine EL.quick 3 [0, 3, 4] [(0, .slice (some ad6839) l6510.length C6512), (3, .slice A6844 l6843.length C6845), (4, .int .i64 (IntKind.i64.wrap (x6772 + 1)))] (by kernel_rfl) ?_
        refine EL.done (by kernel_rfl) ?_
        refine EQ.to ?_
        refine EQ.keep [0, 3, 4] [(0, .slice (some ad6839) l6510.length C6512), (3, .slice A6844 l6843.length C6845), (4, .int .i64 (IntKind.i64.wrap (x6772 + 1)))] (by kernel_rfl) ?_
        exact fun a ha => ⟨n, Nat.lt_succ_self n, l6843, IntKind.i64.wrap (x6772 + 1), A6844, C6845, ha, (hS.re [1] [1] rfl (sub_cons 0 rfl (sub_tail (sub_self)))), H⟩
      · rw [if_neg h6827] at H
        refine EW.exit (id := 0) (by kernel_rfl) ?_
        refine EQ.exitCode ?_
        refine EQ.exitTo ?_
        refine EQ.exitHere ?_
        refine EQ.code ?_
        refine EW.seq (x := Cd66.r.r.r.l) (y := Cd66.r.r.r.r) (by kernel_rfl) ?_
        refine EW.region (id := 6) (ops := Cd66.r.r.r.l.ops) (by kernel_rfl) ?_
        refine EL.quick 2 [2] [(2, .slice A6769 x6768.length C6770)] (by kernel_rfl) ?_
        refine EL.done (by kernel_rfl) ?_
        refine EQ.code ?_
        refine EW.ret (by kernel_rfl) ?_
        obtain rfl := Option.some.inj H
        exact EQ.leave (.slice A6769 x6768.length C6770) (by kernel_rfl) ⟨_, rfl, A6769, C6770, rfl, (hS.re [0] [] rfl (sub_self))⟩

/-! ### confidant/confidantref12.NewFutures: function 45 -/
def confidantref12_NewFutures.f (K : Nat) (l6507 : List Int) : Option (List Int × List (List S75)) := b1 (confidantref12_quotas.f K l6507) fun (t6870 : List Int) => (if 0 ≤ (t6870.length : Int) then (if (24 : Int) * (t6870.length : Int) ≤ 140737488355328 then (lt (List.replicate (t6870.length : Int).toNat [] : List (List S75)) fun l6877 => (some (t6870, l6877))) else none) else none)
set_option maxRecDepth 100000 in
theorem confidantref12_NewFutures.calls {K : Nat} {l6507 : List Int} {A6508 : Option Addr} {C6509 : Nat} {x6860 : List Int} {x6863 : List (List S75)} {B w : World} {os : List Ass} {rs : List Ro} (H : confidantref12_NewFutures.f K l6507 = some (x6860, x6863)) (hS : St B w (os) (Ro.sl (Kd.int .i64) A6508 C6509 l6507 :: rs)) :
    Calls Try.prog 45 [.slice A6508 l6507.length C6509].toArray w (fun en w' => ∃ v, en = .returned v ∧ ∃ g6859 : Nat, ∃ A6861 : Option Addr, ∃ C6862 : Nat, ∃ A6864 : Option Addr, ∃ C6865 : Nat, v = .pointer (some ⟨g6859, 0, none⟩) ∧ St B w' (Ass.box 83 g6859 [.slice A6861 x6860.length C6862, .slice A6864 x6863.length C6865] :: Ass.own 3 (Kd.int .i64) A6861 C6862 x6860 :: Ass.deep 87 75 kS75 A6864 C6865 x6863 :: os) (Ro.sl (Kd.int .i64) A6508 C6509 l6507 :: rs)) := by
  unfold confidantref12_NewFutures.f at H
  refine calls_of_EW (args := [.slice A6508 l6507.length C6509]) (c := Cd45) 12 Try.func45 (by kernel_rfl) (by kernel_rfl) (by kernel_rfl) ?_
  refine EW.seq (x := Cd45.l) (y := Cd45.r) (by kernel_rfl) ?_
  refine EW.region (id := 0) (ops := Cd45.l.ops) (by kernel_rfl) ?_
  refine EL.quick 1 [0] [(0, .slice A6508 l6507.length C6509)] (by kernel_rfl) ?_
  refine EL.done (by kernel_rfl) ?_
  refine EQ.code ?_
  refine EW.seq (x := Cd45.r.l) (y := Cd45.r.r) (by kernel_rfl) ?_
  refine EW.region (id := 1) (ops := Cd45.r.l.ops) (by kernel_rfl) ?_
  refine EL.quick 1 [4] [(4, .slice A6508 l6507.length C6509)] (by kernel_rfl) ?_
  have hS : St B _ (os) (Ro.sl (Kd.int .i64) A6508 C6509 l6507 :: Ro.sl (Kd.int .i64) A6508 C6509 l6507 :: rs) := hS.re [] [] rfl (sub_cons 0 rfl sub_self)
  obtain ⟨t6870, hc6873, H⟩ := b1_out H
  refine EL.of (EO.callD 66 [.slice A6508 l6507.length C6509] _ 5 (by kernel_rfl) (by kernel_rfl) (by kernel_rfl) (confidantref12_quotas.calls hc6873 hS) ?_)
  rintro v w ⟨A6871, C6872, rfl, hS⟩
  refine EL.quick 1 [3] [(3, .slice A6871 t6870.length C6872)] (by kernel_rfl) ?_
  refine EL.done (by kernel_rfl) ?_
  refine EQ.code ?_
  refine EW.seq (x := Cd45.r.r.l) (y := Cd45.r.r.r) (by kernel_rfl) ?_
  refine EW.region (id := 2) (ops := Cd45.r.r.l.ops) (by kernel_rfl) ?_
  refine EL.quick 3 [6, 8] [(6, .slice A6871 t6870.length C6872), (8, .int .i64 (t6870.length : Int))] (by kernel_rfl) ?_
  obtain ⟨h6875, H⟩ := ite_in H
  obtain ⟨h6876, H⟩ := ite_in H
  obtain ⟨l6877, hl6877, H⟩ := lt_out H
  refine EL.of (EO.make (xs := List.replicate (t6870.length : Int).toNat ((none, 0, 0) : Hdr)) hS Kd.hdr 87 80 24 .i64 .i64 (t6870.length : Int) (none, 0, 0) [.slice none ([] : List S75).length 0] rfl 9 (by kernel_rfl) (by kernel_rfl) (by kernel_rfl) (by kernel_rfl) (by kernel_rfl) h6875 h6876 (fun w G => rfl) ?_)
  intro g6874 w hS
  have hS : St B w (Ass.deep 87 75 kS75 (some ⟨g6874, 0, none⟩) ((t6870.length : Int).toNat) l6877 :: Ass.own 3 (Kd.int .i64) A6871 C6872 t6870 :: os) (Ro.sl (Kd.int .i64) A6508 C6509 l6507 :: Ro.sl (Kd.int .i64) A6508 C6509 l6507 :: rs) := by rw [hl6877]; exact St.madeDeep (et := 87) (et' := 75) (K := kS75) hS
  refine EL.as' ((9, .slice (some ⟨g6874, 0, none⟩) l6877.length ((t6870.length : Int).toNat)) :: _) (by rw [hl6877, List.length_replicate, List.length_replicate]) ?_
  refine EL.quick 1 [10] [(10, .agg #[.slice A6871 t6870.length C6872, .slice (some ⟨g6874, 0, none⟩) l6877.length ((t6870.length : Int).toNat)])] (by kernel_rfl) ?_
  refine EL.of (EO.box hS 83 (.agg #[.slice A6871 t6870.length C6872, .slice (some ⟨g6874, 0, none⟩) l6877.length ((t6870.length : Int).toNat)]) [.slice A6871 t6870.length C6872, .slice (some ⟨g6874, 0, none⟩) l6877.length ((t6870.length : Int).toNat)] 11 (by kernel_rfl) (by kernel_rfl) (by kernel_rfl) (by first | rfl | kernel_rfl) ?_)
  intro g6878 w hS
  refine EL.quick 1 [2] [(2, .pointer (some ⟨g6878, 0, none⟩))] (by kernel_rfl) ?_
  refine EL.done (by kernel_rfl) ?_
  refine EQ.code ?_
  refine EW.ret (by kernel_rfl) ?_
  simp only [Option.some.injEq, Prod.mk.injEq] at H
  obtain ⟨rfl, rfl⟩ := H
  exact EQ.leave (.pointer (some ⟨g6878, 0, none⟩)) (by kernel_rfl) ⟨_, rfl, g6878, A6871, C6872, (some ⟨g6874, 0, none⟩), (t6870.length : Int).toNat, rfl, (hS.re [1, 2, 2] [] rfl (sub_tail (sub_self)))⟩

/-! ### confidant/confidantref9.Of: function 68 -/
def confidantref9_Of.f (K : Nat) (a7020 : Int) (a7021 : Int) : Option (Int × Bool) := lt (fun (x7071 : Bool) => (if x7071 = true then (some (0, false)) else (lt (IntKind.i32.wrap (IntKind.i64.wrap ((IntKind.i64.wrap (a7020 * 65536)) + a7021))) fun y7077 => (some (y7077, true))))) fun j7072 => (if a7020 < 0 then (j7072 true) else (if a7020 ≥ 16 then (j7072 true) else (if a7021 < 0 then (j7072 true) else (j7072 (decide (a7021 ≥ 65536))))))
set_option maxRecDepth 100000 in
theorem confidantref9_Of.calls {K : Nat} {a7020 : Int} {a7021 : Int} {x7049 : Int} {x7050 : Bool} {B w : World} {os : List Ass} {rs : List Ro} (H : confidantref9_Of.f K a7020 a7021 = some (x7049, x7050)) (hS : St B w (os) (rs)) :
    Calls Try.prog 68 [.int .i64 a7020, .int .i64 a7021].toArray w (fun en w' => ∃ v, en = .returned v ∧ v = .tuple #[.int .i32 x7049, .bool (x7050)] ∧ St B w' (os) (rs)) := by
  unfold confidantref9_Of.f at H
  refine calls_of_EW (args := [.int .i64 a7020, .int .i64 a7021]) (c := Cd68) 25 Try.func68 (by kernel_rfl) (by kernel_rfl) (by kernel_rfl) ?_
  refine EW.seq (x := Cd68.l) (y := Cd68.r) (by kernel_rfl) ?_
  refine EW.region (id := 0) (ops := Cd68.l.ops) (by kernel_rfl) ?_
  refine EL.quick 2 [0, 1] [(0, .int .i64 a7020), (1, .int .i64 a7021)] (by kernel_rfl) ?_
  refine EL.done (by kernel_rfl) ?_
  refine EQ.code ?_
  refine EW.seq (x := Cd68.r.l) (y := Cd68.r.r) (by kernel_rfl) ?_
  obtain ⟨j7072, hj7072, H⟩ := lt_out H
  refine EW.cut (x := Cd68.r.l.l) (y := Cd68.r.l.r) (fun a w => ∃ x7071 : Bool, Sat 25 [(0, .int .i64 a7020), (1, .int .i64 a7021), (19, .bool (x7071))] a ∧ St B w (os) (rs) ∧ j7072 x7071 = some (x7049, x7050)) (by kernel_rfl) ?_ (fun a w hI => ?_)
  · refine EW.region (id := 1) (ops := Cd68.r.l.l.ops) (by kernel_rfl) ?_
    refine EL.quick 3 [0, 1, 8] [(0, .int .i64 a7020), (1, .int .i64 a7021), (8, .bool (decide (a7020 < 0)))] (by kernel_rfl) ?_
    by_cases h7073 : a7020 < 0
    · rw [if_pos h7073] at H
      refine EL.keep [0, 1, 8] [(0, .int .i64 a7020), (1, .int .i64 a7021), (8, .bool (decide (a7020 < 0)))] (by kernel_rfl) ?_
      refine EL.as' [(0, .int .i64 a7020), (1, .int .i64 a7021), (8, .bool (true))] (by simp only [dec_t h7073, Bool.not_true, Bool.not_false]) ?_
      refine EL.quick 11 [0, 1, 19] [(0, .int .i64 a7020), (1, .int .i64 a7021), (19, .bool (true))] (by kernel_rfl) ?_
      refine EL.done (by kernel_rfl) ?_
      refine EQ.to ?_
      refine EQ.keep [0, 1, 19] [(0, .int .i64 a7020), (1, .int .i64 a7021), (19, .bool (true))] (by kernel_rfl) ?_
      exact fun a ha => ⟨true, ha, (hS.re [] [] rfl (sub_self)), H⟩
    · rw [if_neg h7073] at H
      refine EL.keep [0, 1, 8] [(0, .int .i64 a7020), (1, .int .i64 a7021), (8, .bool (decide (a7020 < 0)))] (by kernel_rfl) ?_
      refine EL.as' [(0, .int .i64 a7020), (1, .int .i64 a7021), (8, .bool (false))] (by simp only [dec_f h7073, Bool.not_true, Bool.not_false]) ?_
      refine EL.quick 4 [0, 1, 12] [(0, .int .i64 a7020), (1, .int .i64 a7021), (12, .bool (decide (a7020 ≥ 16)))] (by kernel_rfl) ?_
      by_cases h7074 : a7020 ≥ 16
      · rw [if_pos h7074] at H
        refine EL.keep [0, 1, 12] [(0, .int .i64 a7020), (1, .int .i64 a7021), (12, .bool (decide (a7020 ≥ 16)))] (by kernel_rfl) ?_
        refine EL.as' [(0, .int .i64 a7020), (1, .int .i64 a7021), (12, .bool (true))] (by simp only [dec_t h7074, Bool.not_true, Bool.not_false]) ?_
        refine EL.quick 7 [0, 1, 19] [(0, .int .i64 a7020), (1, .int .i64 a7021), (19, .bool (true))] (by kernel_rfl) ?_
        refine EL.done (by kernel_rfl) ?_
        refine EQ.to ?_
        refine EQ.keep [0, 1, 19] [(0, .int .i64 a7020), (1, .int .i64 a7021), (19, .bool (true))] (by kernel_rfl) ?_
        exact fun a ha => ⟨true, ha, (hS.re [] [] rfl (sub_self)), H⟩
      · rw [if_neg h7074] at H
        refine EL.keep [0, 1, 12] [(0, .int .i64 a7020), (1, .int .i64 a7021), (12, .bool (decide (a7020 ≥ 16)))] (by kernel_rfl) ?_
        refine EL.as' [(0, .int .i64 a7020), (1, .int .i64 a7021), (12, .bool (false))] (by simp only [dec_f h7074, Bool.not_true, Bool.not_false]) ?_
        refine EL.quick 4 [0, 1, 16] [(0, .int .i64 a7020), (1, .int .i64 a7021), (16, .bool (decide (a7021 < 0)))] (by kernel_rfl) ?_
        by_cases h7075 : a7021 < 0
        · rw [if_pos h7075] at H
          refine EL.keep [0, 1, 16] [(0, .int .i64 a7020), (1, .int .i64 a7021), (16, .bool (decide (a7021 < 0)))] (by kernel_rfl) ?_
          refine EL.as' [(0, .int .i64 a7020), (1, .int .i64 a7021), (16, .bool (true))] (by simp only [dec_t h7075, Bool.not_true, Bool.not_false]) ?_
          refine EL.quick 3 [0, 1, 19] [(0, .int .i64 a7020), (1, .int .i64 a7021), (19, .bool (true))] (by kernel_rfl) ?_
          refine EL.done (by kernel_rfl) ?_
          refine EQ.to ?_
          refine EQ.keep [0, 1, 19] [(0, .int .i64 a7020), (1, .int .i64 a7021), (19, .bool (true))] (by kernel_rfl) ?_
          exact fun a ha => ⟨true, ha, (hS.re [] [] rfl (sub_self)), H⟩
        · rw [if_neg h7075] at H
          refine EL.keep [0, 1, 16] [(0, .int .i64 a7020), (1, .int .i64 a7021), (16, .bool (decide (a7021 < 0)))] (by kernel_rfl) ?_
          refine EL.as' [(0, .int .i64 a7020), (1, .int .i64 a7021), (16, .bool (false))] (by simp only [dec_f h7075, Bool.not_true, Bool.not_false]) ?_
          refine EL.quick 3 [0, 1, 19] [(0, .int .i64 a7020), (1, .int .i64 a7021), (19, .bool (decide (a7021 ≥ 65536)))] (by kernel_rfl) ?_
          refine EL.done (by kernel_rfl) ?_
          refine EQ.to ?_
          refine EQ.keep [0, 1, 19] [(0, .int .i64 a7020), (1, .int .i64 a7021), (19, .bool (decide (a7021 ≥ 65536)))] (by kernel_rfl) ?_
          exact fun a ha => ⟨decide (a7021 ≥ 65536), ha, (hS.re [] [] rfl (sub_self)), H⟩
  · obtain ⟨x7071, ha, hS, H⟩ := hI
    rw [hj7072] at H
    (try dsimp only at H)
    refine EW.at ?_ a ha
    clear ha a
    refine EW.condP' (o := (.tmp 19)) (x := Cd68.r.l.r.l) (y := Cd68.r.l.r.r) (x7071) (by kernel_rfl) (by kernel_rfl) (fun h7076 => ?_) (fun h7076 => ?_)
    · rw [if_pos h7076] at H
      refine EW.seq (x := Cd68.r.l.r.l.l) (y := Cd68.r.l.r.l.r) (by kernel_rfl) ?_
      refine EW.region (id := 2) (ops := Cd68.r.l.r.l.l.ops) (by kernel_rfl) ?_
      refine EL.quick 2 [4, 5] [(4, .int .i32 0), (5, .bool (false))] (by kernel_rfl) ?_
      refine EL.done (by kernel_rfl) ?_
      refine EQ.code ?_
      refine EW.ret (by kernel_rfl) ?_
      refine EQ.ret ?_
      simp only [Option.some.injEq, Prod.mk.injEq] at H
      obtain ⟨rfl, rfl⟩ := H
      exact EQ.leave (.tuple #[.int .i32 0, .bool (false)]) (by kernel_rfl) ⟨_, rfl, rfl, (hS.re [] [] rfl (sub_self))⟩
    · rw [if_neg h7076] at H
      refine EW.skip (by kernel_rfl) ?_
      refine EQ.code ?_
      refine EW.seq (x := Cd68.r.r.l) (y := Cd68.r.r.r) (by kernel_rfl) ?_
      refine EW.region (id := 3) (ops := Cd68.r.r.l.ops) (by kernel_rfl) ?_
      refine EL.quick 7 [4, 5] [(4, .int .i32 (IntKind.i32.wrap (IntKind.i64.wrap ((IntKind.i64.wrap (a7020 * 65536)) + a7021)))), (5, .bool (true))] (by kernel_rfl) ?_
      obtain ⟨y7077, hy7077, H⟩ := lt_out H
      refine EL.keep [4, 5] [(4, .int .i32 (IntKind.i32.wrap (IntKind.i64.wrap ((IntKind.i64.wrap (a7020 * 65536)) + a7021)))), (5, .bool (true))] (by kernel_rfl) ?_
      refine EL.as' [(4, .int .i32 y7077), (5, .bool (true))] (by subst hy7077; rfl) ?_
      refine EL.done (by kernel_rfl) ?_
      refine EQ.code ?_
      refine EW.ret (by kernel_rfl) ?_
      simp only [Option.some.injEq, Prod.mk.injEq] at H
      obtain ⟨rfl, rfl⟩ := H
      exact EQ.leave (.tuple #[.int .i32 y7077, .bool (true)]) (by kernel_rfl) ⟨_, rfl, rfl, (hS.re [] [] rfl (sub_self))⟩

end Go.Proofs.Ytjfnejcanlkknaa.G
