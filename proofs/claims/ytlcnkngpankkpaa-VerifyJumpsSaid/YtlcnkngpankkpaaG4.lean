import Derived.Test.YtlcnkngpankkpaaProg
import Derived.Test.YtlcnkngpankkpaaFwEq
import Derived.Test.YtlcnkngpankkpaaFwOpen
import Derived.Test.YtlcnkngpankkpaaG0
import Derived.Test.YtlcnkngpankkpaaG1
import Derived.Test.YtlcnkngpankkpaaG3
namespace Go.Proofs.Ytlcnkngpankkpaa.G
open Go Go.Fw Go.RowKit Go.Proofs
set_option linter.unusedVariables false
set_option linter.unusedSimpArgs false

/-! ### confidant/confidantlaw8.VerifyJumps: function 5 -/
def confidantlaw8_VerifyJumps.l1 (K : Nat) (a5 : Int) (d1 : (List S32) → Option Bool) : Nat → (List S32) → Int → Option Bool
 | 0, _, _ => none
 | n + 1, b8, b6 => if b6 < (IntKind.i64.wrap (Int.tmod a5 4)) then (lt ([(⟨1, 2⟩ : S32)] : List S32) fun e3 => (if (b8.length + e3.length) * 16 ≤ 140737488355328 then (lt (b8 ++ e3) fun c9 => (confidantlaw8_VerifyJumps.l1 K a5 d1 n c9 (IntKind.i64.wrap (b6 + 1)))) else none)) else (d1 b8)
def confidantlaw8_VerifyJumps.l0 (K : Nat) (a4 : Int) (d0 : (List S32) → Option Bool) : Nat → (List S32) → Int → Option Bool
 | 0, _, _ => none
 | n + 1, b7, b5 => if b5 < (IntKind.i64.wrap (Int.tmod a4 4)) then (lt ([(⟨1, 1⟩ : S32)] : List S32) fun e2 => (if (b7.length + e2.length) * 16 ≤ 140737488355328 then (lt (b7 ++ e2) fun c7 => (confidantlaw8_VerifyJumps.l0 K a4 d0 n c7 (IntKind.i64.wrap (b5 + 1)))) else none)) else (d0 b7)
def confidantlaw8_VerifyJumps.f (K : Nat) (a4 : Int) (a5 : Int) (a6 : Bool) : Option Bool := b1 (confidantlaw8_known.f K) fun (f2 : Bool) => (if f2 = true then (lt ([(⟨1, 0⟩ : S32), (⟨11, IntKind.i32.wrap (IntKind.i64.wrap (3 + (IntKind.i64.wrap (Int.tmod a4 4))))⟩ : S32)] : List S32) fun d2 => (lt (fun (c2 : List S32) => (lt ([(⟨10, IntKind.i32.wrap (IntKind.i64.wrap ((IntKind.i64.wrap (3 + (IntKind.i64.wrap (Int.tmod a4 4)))) + (IntKind.i64.wrap (Int.tmod a5 4))))⟩ : S32)] : List S32) fun b4 => (if (c2.length + b4.length) * 16 ≤ 140737488355328 then (lt (c2 ++ b4) fun c8 => (lt (fun (a0 : List S32) => (lt (fun (a2 : List S32) => (b2 (verify_Func.f K a2 1 1 0) fun (b0 : Int) (b3 : Int) => (b1 (verify_Depths.f K a2) fun (a1 : List Int) => (if (IntKind.i64.wrap (Int.tmod a4 4)) = (IntKind.i64.wrap (Int.tmod a5 4)) then (if b3 = 0 then (if (a1.length : Int) = (a2.length : Int) then (if 0 ≤ (a0.length : Int) then (if (a0.length : Int) < (a1.length : Int) then (some (decide ((a1.getD (a0.length : Int).toNat 0) = (IntKind.i64.wrap (Int.tmod a4 4))))) else none) else none) else (some false)) else (some false)) else (if b3 = 24 then (if b0 = (a0.length : Int) then (some (decide ((a1.length : Int) = 0))) else (some false)) else (some false)))))) fun f8 => (if a6 = true then (lt ([(⟨10, IntKind.i32.wrap (a0.length : Int)⟩ : S32)] : List S32) fun e4 => (if (a0.length + e4.length) * 16 ≤ 140737488355328 then (lt (a0 ++ e4) fun d3 => (f8 d3)) else none)) else (lt ([(⟨26, 0⟩ : S32)] : List S32) fun e5 => (if (a0.length + e5.length) * 16 ≤ 140737488355328 then (lt (a0 ++ e5) fun d4 => (f8 d4)) else none))))) fun d1 => (confidantlaw8_VerifyJumps.l1 K a5 d1 K c8 0))) else none))) fun d0 => (confidantlaw8_VerifyJumps.l0 K a4 d0 K d2 0))) else (some false))
set_option maxRecDepth 100000 in
theorem confidantlaw8_VerifyJumps.calls {K : Nat} {a4 : Int} {a5 : Int} {a6 : Bool} {d5 : Bool} {B w : World} {os : List Ass} {rs : List Ro} (H : confidantlaw8_VerifyJumps.f K a4 a5 a6 = some d5) (hS : St B w (os) (rs)) :
  Calls Try.prog 5 [.int .u8 a4, .int .u8 a5, .bool (a6)].toArray w (fun en w' => ∃ v, en = .returned v ∧ v = .bool (d5) ∧ St B w' (os) (rs)) := by
 unfold confidantlaw8_VerifyJumps.f at H
 refine calls_of_EW (args := [.int .u8 a4, .int .u8 a5, .bool (a6)]) (c := Cd5) 109 Try.func5 (by kernel_rfl) (by kernel_rfl) (by kernel_rfl) ?_
 refine EW.seq (x := Cd5.l) (y := Cd5.r) (by kernel_rfl) ?_
 refine EW.region (id := 0) (ops := Cd5.l.ops) (by kernel_rfl) ?_
 refine EL.quick 1 [0, 1, 2] [(0, .int .u8 a4), (1, .int .u8 a5), (2, .bool (a6))] (by kernel_rfl) ?_
 refine EL.done (by kernel_rfl) ?_
 refine EQ.code ?_
 refine EW.seq (x := Cd5.r.l) (y := Cd5.r.r) (by kernel_rfl) ?_
 refine EW.seq (x := Cd5.r.l.l) (y := Cd5.r.l.r) (by kernel_rfl) ?_
 refine EW.region (id := 1) (ops := Cd5.r.l.l.ops) (by kernel_rfl) ?_
 obtain ⟨f2, j2, H⟩ := b1_out H
 refine EL.of (EO.callD 12 [] _ 16 (by kernel_rfl) (by kernel_rfl) (by kernel_rfl) (confidantlaw8_known.calls j2 hS) ?_)
 rintro v w ⟨rfl, hS⟩
 refine EL.quick 1 [0, 1, 2, 17] [(0, .int .u8 a4), (1, .int .u8 a5), (2, .bool (a6)), (17, .bool (!(f2)))] (by kernel_rfl) ?_
 refine EL.done (by kernel_rfl) ?_
 refine EQ.code ?_
 refine EW.condQ (b := !(f2)) (o := (.tmp 17)) (x := Cd5.r.l.r.l) (y := Cd5.r.l.r.r) (f2 = true) (false) (by kernel_rfl) (by kernel_rfl) ⟨fun h => (by rw [h] <;> rfl), fun h => (by rw [Bool.eq_false_iff.2 h] <;> rfl)⟩ (fun f9 => ?_) (fun f9 => ?_)
 ·rw [if_pos f9] at H
  refine EW.skip (by kernel_rfl) ?_
  refine EQ.code ?_
  refine EW.seq (x := Cd5.r.r.l) (y := Cd5.r.r.r) (by kernel_rfl) ?_
  refine EW.region (id := 3) (ops := Cd5.r.r.l.ops) (by kernel_rfl) ?_
  refine EL.quick 8 [2, 7, 8] [(2, .bool (a6)), (7, .int .i64 (IntKind.i64.wrap (Int.tmod a4 4))), (8, .int .i64 (IntKind.i64.wrap (Int.tmod a5 4)))] (by kernel_rfl) ?_
  refine EL.done (by kernel_rfl) ?_
  refine EQ.code ?_
  refine EW.seq (x := Cd5.r.r.r.l) (y := Cd5.r.r.r.r) (by kernel_rfl) ?_
  refine EW.region (id := 4) (ops := Cd5.r.r.r.l.ops) (by kernel_rfl) ?_
  refine EL.quick 5 [2, 7, 8, 24, 28] [(2, .bool (a6)), (7, .int .i64 (IntKind.i64.wrap (Int.tmod a4 4))), (8, .int .i64 (IntKind.i64.wrap (Int.tmod a5 4))), (24, .agg #[.int .i64 1, .int .i32 0]), (28, .agg #[.int .i64 11, .int .i32 (IntKind.i32.wrap (IntKind.i64.wrap (3 + (IntKind.i64.wrap (Int.tmod a4 4)))))])] (by kernel_rfl) ?_
  obtain ⟨d2, i1, H⟩ := lt_out H
  refine EL.of (EO.lit hS kS32 32 29 2 #[(0, .agg #[.int .i64 1, .int .i32 0]), (1, .agg #[.int .i64 11, .int .i32 (IntKind.i32.wrap (IntKind.i64.wrap (3 + (IntKind.i64.wrap (Int.tmod a4 4)))))])] [.int .i64 1, .int .i32 0, .int .i64 11, .int .i32 (IntKind.i32.wrap (IntKind.i64.wrap (3 + (IntKind.i64.wrap (Int.tmod a4 4)))))] d2 29 (by kernel_rfl) (by kernel_rfl) (by kernel_rfl) (fun _ => (by kernel_rfl)) (by rw [i1]; rfl) (by kernel_rfl) (fun w G hr => (by rw [i1]; exact ⟨[.int .i64 1, .int .i32 0], [.int .i64 11, .int .i32 (IntKind.i32.wrap (IntKind.i64.wrap (3 + (IntKind.i64.wrap (Int.tmod a4 4)))))], rfl, ⟨[.int .i64 1], [.int .i32 0], rfl, rfl, ⟨[.int .i32 0], [], rfl, rfl, rfl⟩⟩, ⟨[.int .i64 11, .int .i32 (IntKind.i32.wrap (IntKind.i64.wrap (3 + (IntKind.i64.wrap (Int.tmod a4 4)))))], [], rfl, ⟨[.int .i64 11], [.int .i32 (IntKind.i32.wrap (IntKind.i64.wrap (3 + (IntKind.i64.wrap (Int.tmod a4 4)))))], rfl, rfl, ⟨[.int .i32 (IntKind.i32.wrap (IntKind.i64.wrap (3 + (IntKind.i64.wrap (Int.tmod a4 4)))))], [], rfl, rfl, rfl⟩⟩, rfl⟩⟩)) ?_)
  intro f3 w hS
  refine EL.quick 1 [2, 7, 8, 9] [(2, .bool (a6)), (7, .int .i64 (IntKind.i64.wrap (Int.tmod a4 4))), (8, .int .i64 (IntKind.i64.wrap (Int.tmod a5 4))), (9, .slice (some ⟨f3, 0, none⟩) d2.length 2)] (by kernel_rfl) ?_
  refine EL.done (by kernel_rfl) ?_
  refine EQ.code ?_
  obtain ⟨d0, j5, H⟩ := lt_out H
  refine EW.cut (x := Cd5.r.r.r.r.l) (y := Cd5.r.r.r.r.r) (fun a w => ∃ c2 : List S32, ∃ e6 : Option Addr, ∃ e9 : Nat, Sat 109 [(2, .bool (a6)), (7, .int .i64 (IntKind.i64.wrap (Int.tmod a4 4))), (8, .int .i64 (IntKind.i64.wrap (Int.tmod a5 4))), (9, .slice e6 c2.length e9)] a ∧ St B w (Ass.own 32 kS32 e6 e9 c2 :: os) (rs) ∧ d0 c2 = some d5) (by kernel_rfl) ?_ (fun a w hI => ?_)
  ·refine EW.seq (x := Cd5.r.r.r.r.l.l) (y := Cd5.r.r.r.r.l.r) (by kernel_rfl) ?_
   refine EW.region (id := 5) (ops := Cd5.r.r.r.r.l.l.ops) (by kernel_rfl) ?_
   refine EL.quick 1 [2, 7, 8, 9, 10] [(2, .bool (a6)), (7, .int .i64 (IntKind.i64.wrap (Int.tmod a4 4))), (8, .int .i64 (IntKind.i64.wrap (Int.tmod a5 4))), (9, .slice (some ⟨f3, 0, none⟩) d2.length 2), (10, .int .i64 0)] (by kernel_rfl) ?_
   refine EL.done (by kernel_rfl) ?_
   refine EQ.code ?_
   refine EW.block (x := Cd5.r.r.r.r.l.r.l) (id := 0) (by kernel_rfl) ?_
   refine EW.loop (x := Cd5.r.r.r.r.l.r.l.l) (fun n a w => ∃ b7 : List S32, ∃ b5 : Int, ∃ c3 : Option Addr, ∃ c5 : Nat, Sat 109 [(2, .bool (a6)), (7, .int .i64 (IntKind.i64.wrap (Int.tmod a4 4))), (8, .int .i64 (IntKind.i64.wrap (Int.tmod a5 4))), (9, .slice c3 b7.length c5), (10, .int .i64 b5)] a ∧ St B w (Ass.own 32 kS32 c3 c5 b7 :: os) (rs) ∧ confidantlaw8_VerifyJumps.l0 K a4 d0 n b7 b5 = some d5) K (by kernel_rfl) ?_ (fun n a w hI => ?_)
   ·refine EQ.keep [2, 7, 8, 9, 10] [(2, .bool (a6)), (7, .int .i64 (IntKind.i64.wrap (Int.tmod a4 4))), (8, .int .i64 (IntKind.i64.wrap (Int.tmod a5 4))), (9, .slice (some ⟨f3, 0, none⟩) d2.length 2), (10, .int .i64 0)] (by kernel_rfl) ?_
    exact fun a ha => ⟨d2, 0, (some ⟨f3, 0, none⟩), 2, ha, (hS.re [0] [] rfl (sub_self)), H⟩
   ·obtain ⟨b7, b5, c3, c5, ha, hS, H⟩ := hI
    obtain _ | n := n
    ·simp [confidantlaw8_VerifyJumps.l0] at H
    rw [confidantlaw8_VerifyJumps.l0.eq_2] at H
    refine EW.at ?_ a ha
    clear ha a
    refine EW.seq (x := Cd5.r.r.r.r.l.r.l.l.l) (y := Cd5.r.r.r.r.l.r.l.l.r) (by kernel_rfl) ?_
    refine EW.seq (x := Cd5.r.r.r.r.l.r.l.l.l.l) (y := Cd5.r.r.r.r.l.r.l.l.l.r) (by kernel_rfl) ?_
    refine EW.region (id := 6) (ops := Cd5.r.r.r.r.l.r.l.l.l.l.ops) (by kernel_rfl) ?_
    refine EL.quick 3 [2, 7, 8, 9, 10, 32] [(2, .bool (a6)), (7, .int .i64 (IntKind.i64.wrap (Int.tmod a4 4))), (8, .int .i64 (IntKind.i64.wrap (Int.tmod a5 4))), (9, .slice c3 b7.length c5), (10, .int .i64 b5), (32, .bool (decide (b5 < (IntKind.i64.wrap (Int.tmod a4 4)))))] (by kernel_rfl) ?_
    refine EL.done (by kernel_rfl) ?_
    refine EQ.code ?_
    refine EW.condP (o := (.tmp 32)) (x := Cd5.r.r.r.r.l.r.l.l.l.r.l) (y := Cd5.r.r.r.r.l.r.l.l.l.r.r) (b5 < (IntKind.i64.wrap (Int.tmod a4 4))) (by kernel_rfl) (by kernel_rfl) (fun g0 => ?_) (fun g0 => ?_)
    ·rw [if_pos g0] at H
     refine EW.skip (by kernel_rfl) ?_
     refine EQ.code ?_
     refine EW.seq (x := Cd5.r.r.r.r.l.r.l.l.r.l) (y := Cd5.r.r.r.r.l.r.l.l.r.r) (by kernel_rfl) ?_
     refine EW.block (x := Cd5.r.r.r.r.l.r.l.l.r.l.l) (id := 1) (by kernel_rfl) ?_
     refine EW.region (id := 8) (ops := Cd5.r.r.r.r.l.r.l.l.r.l.l.ops) (by kernel_rfl) ?_
     refine EL.quick 2 [2, 7, 8, 10, 35, 36] [(2, .bool (a6)), (7, .int .i64 (IntKind.i64.wrap (Int.tmod a4 4))), (8, .int .i64 (IntKind.i64.wrap (Int.tmod a5 4))), (10, .int .i64 b5), (35, .slice c3 b7.length c5), (36, .agg #[.int .i64 1, .int .i32 1])] (by kernel_rfl) ?_
     obtain ⟨e2, i2, H⟩ := lt_out H
     refine EL.of (EO.lit hS kS32 32 29 1 #[(0, .agg #[.int .i64 1, .int .i32 1])] [.int .i64 1, .int .i32 1] e2 37 (by kernel_rfl) (by kernel_rfl) (by kernel_rfl) (fun _ => (by kernel_rfl)) (by rw [i2]; rfl) (by kernel_rfl) (fun w G hr => (by rw [i2]; exact ⟨[.int .i64 1, .int .i32 1], [], rfl, ⟨[.int .i64 1], [.int .i32 1], rfl, rfl, ⟨[.int .i32 1], [], rfl, rfl, rfl⟩⟩, rfl⟩)) ?_)
     intro g7 w hS
     obtain ⟨i7, H⟩ := ite_in H
     obtain ⟨c7, j8, H⟩ := lt_out H
     refine EL.of (EO.append hS 29 29 32 16 1 kS32 c3 c5 b7 rfl (some ⟨g7, 0, none⟩) 1 e2 (Rd.own 0 32 rfl) c7 j8 (fun d6 d9 => Ass.own 32 kS32 (some ⟨g7, 0, none⟩) 1 e2 :: Ass.own 32 kS32 d6 d9 c7 :: os) 38 (by kernel_rfl) (by kernel_rfl) (by kernel_rfl) (by kernel_rfl) i7 (fun _ _ => rfl) ?_)
     intro d6 d9 w hS
     refine EL.quick 1 [2, 7, 8, 9, 10] [(2, .bool (a6)), (7, .int .i64 (IntKind.i64.wrap (Int.tmod a4 4))), (8, .int .i64 (IntKind.i64.wrap (Int.tmod a5 4))), (9, .slice d6 c7.length d9), (10, .int .i64 b5)] (by kernel_rfl) ?_
     refine EL.done (by kernel_rfl) ?_
     refine EQ.pop ?_
     refine EQ.code ?_
     refine EW.region (id := 7) (ops := Cd5.r.r.r.r.l.r.l.l.r.r.ops) (by kernel_rfl) ?_
     refine EL.quick 3 [2, 7, 8, 9, 10] [(2, .bool (a6)), (7, .int .i64 (IntKind.i64.wrap (Int.tmod a4 4))), (8, .int .i64 (IntKind.i64.wrap (Int.tmod a5 4))), (9, .slice d6 c7.length d9), (10, .int .i64 (IntKind.i64.wrap (b5 + 1)))] (by kernel_rfl) ?_
     refine EL.done (by kernel_rfl) ?_
     refine EQ.to ?_
     refine EQ.keep [2, 7, 8, 9, 10] [(2, .bool (a6)), (7, .int .i64 (IntKind.i64.wrap (Int.tmod a4 4))), (8, .int .i64 (IntKind.i64.wrap (Int.tmod a5 4))), (9, .slice d6 c7.length d9), (10, .int .i64 (IntKind.i64.wrap (b5 + 1)))] (by kernel_rfl) ?_
     exact fun a ha => ⟨n, Nat.lt_succ_self n, c7, IntKind.i64.wrap (b5 + 1), d6, d9, ha, (hS.re [1] [1] rfl (sub_self)), H⟩
    ·rw [if_neg g0] at H
     refine EW.exit (id := 0) (by kernel_rfl) ?_
     refine EQ.exitCode ?_
     refine EQ.exitTo ?_
     refine EQ.exitHere ?_
     refine EQ.to ?_
     refine EQ.keep [2, 7, 8, 9] [(2, .bool (a6)), (7, .int .i64 (IntKind.i64.wrap (Int.tmod a4 4))), (8, .int .i64 (IntKind.i64.wrap (Int.tmod a5 4))), (9, .slice c3 b7.length c5)] (by kernel_rfl) ?_
     exact fun a ha => ⟨b7, c3, c5, ha, (hS.re [0] [] rfl (sub_self)), H⟩
  ·obtain ⟨c2, e6, e9, ha, hS, H⟩ := hI
   rw [j5] at H
   (try dsimp only at H)
   refine EW.at ?_ a ha
   clear ha a
   refine EW.seq (x := Cd5.r.r.r.r.r.l) (y := Cd5.r.r.r.r.r.r) (by kernel_rfl) ?_
   refine EW.region (id := 9) (ops := Cd5.r.r.r.r.r.l.ops) (by kernel_rfl) ?_
   refine EL.quick 7 [2, 7, 8, 39, 45] [(2, .bool (a6)), (7, .int .i64 (IntKind.i64.wrap (Int.tmod a4 4))), (8, .int .i64 (IntKind.i64.wrap (Int.tmod a5 4))), (39, .slice e6 c2.length e9), (45, .agg #[.int .i64 10, .int .i32 (IntKind.i32.wrap (IntKind.i64.wrap ((IntKind.i64.wrap (3 + (IntKind.i64.wrap (Int.tmod a4 4)))) + (IntKind.i64.wrap (Int.tmod a5 4)))))])] (by kernel_rfl) ?_
   obtain ⟨b4, i3, H⟩ := lt_out H
   refine EL.of (EO.lit hS kS32 32 29 1 #[(0, .agg #[.int .i64 10, .int .i32 (IntKind.i32.wrap (IntKind.i64.wrap ((IntKind.i64.wrap (3 + (IntKind.i64.wrap (Int.tmod a4 4)))) + (IntKind.i64.wrap (Int.tmod a5 4)))))])] [.int .i64 10, .int .i32 (IntKind.i32.wrap (IntKind.i64.wrap ((IntKind.i64.wrap (3 + (IntKind.i64.wrap (Int.tmod a4 4)))) + (IntKind.i64.wrap (Int.tmod a5 4)))))] b4 46 (by kernel_rfl) (by kernel_rfl) (by kernel_rfl) (fun _ => (by kernel_rfl)) (by rw [i3]; rfl) (by kernel_rfl) (fun w G hr => (by rw [i3]; exact ⟨[.int .i64 10, .int .i32 (IntKind.i32.wrap (IntKind.i64.wrap ((IntKind.i64.wrap (3 + (IntKind.i64.wrap (Int.tmod a4 4)))) + (IntKind.i64.wrap (Int.tmod a5 4)))))], [], rfl, ⟨[.int .i64 10], [.int .i32 (IntKind.i32.wrap (IntKind.i64.wrap ((IntKind.i64.wrap (3 + (IntKind.i64.wrap (Int.tmod a4 4)))) + (IntKind.i64.wrap (Int.tmod a5 4)))))], rfl, rfl, ⟨[.int .i32 (IntKind.i32.wrap (IntKind.i64.wrap ((IntKind.i64.wrap (3 + (IntKind.i64.wrap (Int.tmod a4 4)))) + (IntKind.i64.wrap (Int.tmod a5 4)))))], [], rfl, rfl, rfl⟩⟩, rfl⟩)) ?_)
   intro b9 w hS
   obtain ⟨i8, H⟩ := ite_in H
   obtain ⟨c8, j9, H⟩ := lt_out H
   refine EL.of (EO.append hS 29 29 32 16 1 kS32 e6 e9 c2 rfl (some ⟨b9, 0, none⟩) 1 b4 (Rd.own 0 32 rfl) c8 j9 (fun d7 e0 => Ass.own 32 kS32 (some ⟨b9, 0, none⟩) 1 b4 :: Ass.own 32 kS32 d7 e0 c8 :: os) 47 (by kernel_rfl) (by kernel_rfl) (by kernel_rfl) (by kernel_rfl) i8 (fun _ _ => rfl) ?_)
   intro d7 e0 w hS
   refine EL.quick 1 [2, 7, 8, 9] [(2, .bool (a6)), (7, .int .i64 (IntKind.i64.wrap (Int.tmod a4 4))), (8, .int .i64 (IntKind.i64.wrap (Int.tmod a5 4))), (9, .slice d7 c8.length e0)] (by kernel_rfl) ?_
   refine EL.done (by kernel_rfl) ?_
   refine EQ.code ?_
   obtain ⟨d1, j6, H⟩ := lt_out H
   refine EW.cut (x := Cd5.r.r.r.r.r.r.l) (y := Cd5.r.r.r.r.r.r.r) (fun a w => ∃ a0 : List S32, ∃ c0 : Option Addr, ∃ c1 : Nat, Sat 109 [(2, .bool (a6)), (7, .int .i64 (IntKind.i64.wrap (Int.tmod a4 4))), (8, .int .i64 (IntKind.i64.wrap (Int.tmod a5 4))), (9, .slice c0 a0.length c1)] a ∧ St B w (Ass.own 32 kS32 (some ⟨b9, 0, none⟩) 1 b4 :: Ass.own 32 kS32 c0 c1 a0 :: os) (rs) ∧ d1 a0 = some d5) (by kernel_rfl) ?_ (fun a w hI => ?_)
   ·refine EW.seq (x := Cd5.r.r.r.r.r.r.l.l) (y := Cd5.r.r.r.r.r.r.l.r) (by kernel_rfl) ?_
    refine EW.region (id := 10) (ops := Cd5.r.r.r.r.r.r.l.l.ops) (by kernel_rfl) ?_
    refine EL.quick 1 [2, 7, 8, 9, 11] [(2, .bool (a6)), (7, .int .i64 (IntKind.i64.wrap (Int.tmod a4 4))), (8, .int .i64 (IntKind.i64.wrap (Int.tmod a5 4))), (9, .slice d7 c8.length e0), (11, .int .i64 0)] (by kernel_rfl) ?_
    refine EL.done (by kernel_rfl) ?_
    refine EQ.code ?_
    refine EW.block (x := Cd5.r.r.r.r.r.r.l.r.l) (id := 2) (by kernel_rfl) ?_
    refine EW.loop (x := Cd5.r.r.r.r.r.r.l.r.l.l) (fun n a w => ∃ b8 : List S32, ∃ b6 : Int, ∃ c4 : Option Addr, ∃ c6 : Nat, Sat 109 [(2, .bool (a6)), (7, .int .i64 (IntKind.i64.wrap (Int.tmod a4 4))), (8, .int .i64 (IntKind.i64.wrap (Int.tmod a5 4))), (9, .slice c4 b8.length c6), (11, .int .i64 b6)] a ∧ St B w (Ass.own 32 kS32 (some ⟨b9, 0, none⟩) 1 b4 :: Ass.own 32 kS32 c4 c6 b8 :: os) (rs) ∧ confidantlaw8_VerifyJumps.l1 K a5 d1 n b8 b6 = some d5) K (by kernel_rfl) ?_ (fun n a w hI => ?_)
    ·refine EQ.keep [2, 7, 8, 9, 11] [(2, .bool (a6)), (7, .int .i64 (IntKind.i64.wrap (Int.tmod a4 4))), (8, .int .i64 (IntKind.i64.wrap (Int.tmod a5 4))), (9, .slice d7 c8.length e0), (11, .int .i64 0)] (by kernel_rfl) ?_
     exact fun a ha => ⟨c8, 0, d7, e0, ha, (hS.re [1, 1] [] rfl (sub_self)), H⟩
    ·obtain ⟨b8, b6, c4, c6, ha, hS, H⟩ := hI
     obtain _ | n := n
     ·simp [confidantlaw8_VerifyJumps.l1] at H
     rw [confidantlaw8_VerifyJumps.l1.eq_2] at H
     refine EW.at ?_ a ha
     clear ha a
     refine EW.seq (x := Cd5.r.r.r.r.r.r.l.r.l.l.l) (y := Cd5.r.r.r.r.r.r.l.r.l.l.r) (by kernel_rfl) ?_
     refine EW.seq (x := Cd5.r.r.r.r.r.r.l.r.l.l.l.l) (y := Cd5.r.r.r.r.r.r.l.r.l.l.l.r) (by kernel_rfl) ?_
     refine EW.region (id := 11) (ops := Cd5.r.r.r.r.r.r.l.r.l.l.l.l.ops) (by kernel_rfl) ?_
     refine EL.quick 3 [2, 7, 8, 9, 11, 50] [(2, .bool (a6)), (7, .int .i64 (IntKind.i64.wrap (Int.tmod a4 4))), (8, .int .i64 (IntKind.i64.wrap (Int.tmod a5 4))), (9, .slice c4 b8.length c6), (11, .int .i64 b6), (50, .bool (decide (b6 < (IntKind.i64.wrap (Int.tmod a5 4)))))] (by kernel_rfl) ?_
     refine EL.done (by kernel_rfl) ?_
     refine EQ.code ?_
     refine EW.condP (o := (.tmp 50)) (x := Cd5.r.r.r.r.r.r.l.r.l.l.l.r.l) (y := Cd5.r.r.r.r.r.r.l.r.l.l.l.r.r) (b6 < (IntKind.i64.wrap (Int.tmod a5 4))) (by kernel_rfl) (by kernel_rfl) (fun g1 => ?_) (fun g1 => ?_)
     ·rw [if_pos g1] at H
      refine EW.skip (by kernel_rfl) ?_
      refine EQ.code ?_
      refine EW.seq (x := Cd5.r.r.r.r.r.r.l.r.l.l.r.l) (y := Cd5.r.r.r.r.r.r.l.r.l.l.r.r) (by kernel_rfl) ?_
      refine EW.block (x := Cd5.r.r.r.r.r.r.l.r.l.l.r.l.l) (id := 3) (by kernel_rfl) ?_
      refine EW.region (id := 13) (ops := Cd5.r.r.r.r.r.r.l.r.l.l.r.l.l.ops) (by kernel_rfl) ?_
      refine EL.quick 2 [2, 7, 8, 11, 53, 54] [(2, .bool (a6)), (7, .int .i64 (IntKind.i64.wrap (Int.tmod a4 4))), (8, .int .i64 (IntKind.i64.wrap (Int.tmod a5 4))), (11, .int .i64 b6), (53, .slice c4 b8.length c6), (54, .agg #[.int .i64 1, .int .i32 2])] (by kernel_rfl) ?_
      obtain ⟨e3, i4, H⟩ := lt_out H
      refine EL.of (EO.lit hS kS32 32 29 1 #[(0, .agg #[.int .i64 1, .int .i32 2])] [.int .i64 1, .int .i32 2] e3 55 (by kernel_rfl) (by kernel_rfl) (by kernel_rfl) (fun _ => (by kernel_rfl)) (by rw [i4]; rfl) (by kernel_rfl) (fun w G hr => (by rw [i4]; exact ⟨[.int .i64 1, .int .i32 2], [], rfl, ⟨[.int .i64 1], [.int .i32 2], rfl, rfl, ⟨[.int .i32 2], [], rfl, rfl, rfl⟩⟩, rfl⟩)) ?_)
      intro g8 w hS
      obtain ⟨i9, H⟩ := ite_in H
      obtain ⟨c9, m0, H⟩ := lt_out H
      refine EL.of (EO.append hS 29 29 32 16 2 kS32 c4 c6 b8 rfl (some ⟨g8, 0, none⟩) 1 e3 (Rd.own 0 32 rfl) c9 m0 (fun d8 e1 => Ass.own 32 kS32 (some ⟨g8, 0, none⟩) 1 e3 :: Ass.own 32 kS32 (some ⟨b9, 0, none⟩) 1 b4 :: Ass.own 32 kS32 d8 e1 c9 :: os) 56 (by kernel_rfl) (by kernel_rfl) (by kernel_rfl) (by kernel_rfl) i9 (fun _ _ => rfl) ?_)
      intro d8 e1 w hS
      refine EL.quick 1 [2, 7, 8, 9, 11] [(2, .bool (a6)), (7, .int .i64 (IntKind.i64.wrap (Int.tmod a4 4))), (8, .int .i64 (IntKind.i64.wrap (Int.tmod a5 4))), (9, .slice d8 c9.length e1), (11, .int .i64 b6)] (by kernel_rfl) ?_
      refine EL.done (by kernel_rfl) ?_
      refine EQ.pop ?_
      refine EQ.code ?_
      refine EW.region (id := 12) (ops := Cd5.r.r.r.r.r.r.l.r.l.l.r.r.ops) (by kernel_rfl) ?_
      refine EL.quick 3 [2, 7, 8, 9, 11] [(2, .bool (a6)), (7, .int .i64 (IntKind.i64.wrap (Int.tmod a4 4))), (8, .int .i64 (IntKind.i64.wrap (Int.tmod a5 4))), (9, .slice d8 c9.length e1), (11, .int .i64 (IntKind.i64.wrap (b6 + 1)))] (by kernel_rfl) ?_
      refine EL.done (by kernel_rfl) ?_
      refine EQ.to ?_
      refine EQ.keep [2, 7, 8, 9, 11] [(2, .bool (a6)), (7, .int .i64 (IntKind.i64.wrap (Int.tmod a4 4))), (8, .int .i64 (IntKind.i64.wrap (Int.tmod a5 4))), (9, .slice d8 c9.length e1), (11, .int .i64 (IntKind.i64.wrap (b6 + 1)))] (by kernel_rfl) ?_
      exact fun a ha => ⟨n, Nat.lt_succ_self n, c9, IntKind.i64.wrap (b6 + 1), d8, e1, ha, (hS.re [2, 2] [2] rfl (sub_self)), H⟩
     ·rw [if_neg g1] at H
      refine EW.exit (id := 2) (by kernel_rfl) ?_
      refine EQ.exitCode ?_
      refine EQ.exitTo ?_
      refine EQ.exitHere ?_
      refine EQ.to ?_
      refine EQ.keep [2, 7, 8, 9] [(2, .bool (a6)), (7, .int .i64 (IntKind.i64.wrap (Int.tmod a4 4))), (8, .int .i64 (IntKind.i64.wrap (Int.tmod a5 4))), (9, .slice c4 b8.length c6)] (by kernel_rfl) ?_
      exact fun a ha => ⟨b8, c4, c6, ha, (hS.re [1, 1] [] rfl (sub_self)), H⟩
   ·obtain ⟨a0, c0, c1, ha, hS, H⟩ := hI
    rw [j6] at H
    (try dsimp only at H)
    refine EW.at ?_ a ha
    clear ha a
    refine EW.seq (x := Cd5.r.r.r.r.r.r.r.l) (y := Cd5.r.r.r.r.r.r.r.r) (by kernel_rfl) ?_
    refine EW.region (id := 14) (ops := Cd5.r.r.r.r.r.r.r.l.ops) (by kernel_rfl) ?_
    refine EL.quick 3 [2, 7, 8, 9, 12] [(2, .bool (a6)), (7, .int .i64 (IntKind.i64.wrap (Int.tmod a4 4))), (8, .int .i64 (IntKind.i64.wrap (Int.tmod a5 4))), (9, .slice c0 a0.length c1), (12, .int .i64 (a0.length : Int))] (by kernel_rfl) ?_
    refine EL.done (by kernel_rfl) ?_
    refine EQ.code ?_
    obtain ⟨f8, j7, H⟩ := lt_out H
    refine EW.cut (x := Cd5.r.r.r.r.r.r.r.r.l) (y := Cd5.r.r.r.r.r.r.r.r.r) (fun a w => ∃ a2 : List S32, ∃ a8 : Option Addr, ∃ a9 : Nat, Sat 109 [(7, .int .i64 (IntKind.i64.wrap (Int.tmod a4 4))), (8, .int .i64 (IntKind.i64.wrap (Int.tmod a5 4))), (9, .slice a8 a2.length a9), (12, .int .i64 (a0.length : Int))] a ∧ St B w (Ass.own 32 kS32 (some ⟨b9, 0, none⟩) 1 b4 :: Ass.own 32 kS32 a8 a9 a2 :: os) (rs) ∧ f8 a2 = some d5) (by kernel_rfl) ?_ (fun a w hI => ?_)
    ·refine EW.seq (x := Cd5.r.r.r.r.r.r.r.r.l.l) (y := Cd5.r.r.r.r.r.r.r.r.l.r) (by kernel_rfl) ?_
     refine EW.region (id := 15) (ops := Cd5.r.r.r.r.r.r.r.r.l.l.ops) (by kernel_rfl) ?_
     refine EL.quick 1 [7, 8, 9, 12, 59] [(7, .int .i64 (IntKind.i64.wrap (Int.tmod a4 4))), (8, .int .i64 (IntKind.i64.wrap (Int.tmod a5 4))), (9, .slice c0 a0.length c1), (12, .int .i64 (a0.length : Int)), (59, .bool (a6))] (by kernel_rfl) ?_
     refine EL.done (by kernel_rfl) ?_
     refine EQ.code ?_
     refine EW.condP' (o := (.tmp 59)) (x := Cd5.r.r.r.r.r.r.r.r.l.r.l) (y := Cd5.r.r.r.r.r.r.r.r.l.r.r) (a6) (by kernel_rfl) (by kernel_rfl) (fun g2 => ?_) (fun g2 => ?_)
     ·rw [if_pos g2] at H
      refine EW.region (id := 16) (ops := Cd5.r.r.r.r.r.r.r.r.l.r.l.ops) (by kernel_rfl) ?_
      refine EL.quick 4 [7, 8, 12, 60, 63] [(7, .int .i64 (IntKind.i64.wrap (Int.tmod a4 4))), (8, .int .i64 (IntKind.i64.wrap (Int.tmod a5 4))), (12, .int .i64 (a0.length : Int)), (60, .slice c0 a0.length c1), (63, .agg #[.int .i64 10, .int .i32 (IntKind.i32.wrap (a0.length : Int))])] (by kernel_rfl) ?_
      obtain ⟨e4, i5, H⟩ := lt_out H
      refine EL.of (EO.lit hS kS32 32 29 1 #[(0, .agg #[.int .i64 10, .int .i32 (IntKind.i32.wrap (a0.length : Int))])] [.int .i64 10, .int .i32 (IntKind.i32.wrap (a0.length : Int))] e4 64 (by kernel_rfl) (by kernel_rfl) (by kernel_rfl) (fun _ => (by kernel_rfl)) (by rw [i5]; rfl) (by kernel_rfl) (fun w G hr => (by rw [i5]; exact ⟨[.int .i64 10, .int .i32 (IntKind.i32.wrap (a0.length : Int))], [], rfl, ⟨[.int .i64 10], [.int .i32 (IntKind.i32.wrap (a0.length : Int))], rfl, rfl, ⟨[.int .i32 (IntKind.i32.wrap (a0.length : Int))], [], rfl, rfl, rfl⟩⟩, rfl⟩)) ?_)
      intro g9 w hS
      obtain ⟨j0, H⟩ := ite_in H
      obtain ⟨d3, m1, H⟩ := lt_out H
      refine EL.of (EO.append hS 29 29 32 16 2 kS32 c0 c1 a0 rfl (some ⟨g9, 0, none⟩) 1 e4 (Rd.own 0 32 rfl) d3 m1 (fun e7 f0 => Ass.own 32 kS32 (some ⟨g9, 0, none⟩) 1 e4 :: Ass.own 32 kS32 (some ⟨b9, 0, none⟩) 1 b4 :: Ass.own 32 kS32 e7 f0 d3 :: os) 65 (by kernel_rfl) (by kernel_rfl) (by kernel_rfl) (by kernel_rfl) j0 (fun _ _ => rfl) ?_)
      intro e7 f0 w hS
      refine EL.quick 1 [7, 8, 9, 12] [(7, .int .i64 (IntKind.i64.wrap (Int.tmod a4 4))), (8, .int .i64 (IntKind.i64.wrap (Int.tmod a5 4))), (9, .slice e7 d3.length f0), (12, .int .i64 (a0.length : Int))] (by kernel_rfl) ?_
      refine EL.done (by kernel_rfl) ?_
      refine EQ.to ?_
      refine EQ.keep [7, 8, 9, 12] [(7, .int .i64 (IntKind.i64.wrap (Int.tmod a4 4))), (8, .int .i64 (IntKind.i64.wrap (Int.tmod a5 4))), (9, .slice e7 d3.length f0), (12, .int .i64 (a0.length : Int))] (by kernel_rfl) ?_
      exact fun a ha => ⟨d3, e7, f0, ha, (hS.re [2, 2] [2] rfl (sub_self)), H⟩
     ·rw [if_neg g2] at H
      refine EW.region (id := 17) (ops := Cd5.r.r.r.r.r.r.r.r.l.r.r.ops) (by kernel_rfl) ?_
      refine EL.quick 2 [7, 8, 12, 66, 67] [(7, .int .i64 (IntKind.i64.wrap (Int.tmod a4 4))), (8, .int .i64 (IntKind.i64.wrap (Int.tmod a5 4))), (12, .int .i64 (a0.length : Int)), (66, .slice c0 a0.length c1), (67, .agg #[.int .i64 26, .int .i32 0])] (by kernel_rfl) ?_
      obtain ⟨e5, i6, H⟩ := lt_out H
      refine EL.of (EO.lit hS kS32 32 29 1 #[(0, .agg #[.int .i64 26, .int .i32 0])] [.int .i64 26, .int .i32 0] e5 68 (by kernel_rfl) (by kernel_rfl) (by kernel_rfl) (fun _ => (by kernel_rfl)) (by rw [i6]; rfl) (by kernel_rfl) (fun w G hr => (by rw [i6]; exact ⟨[.int .i64 26, .int .i32 0], [], rfl, ⟨[.int .i64 26], [.int .i32 0], rfl, rfl, ⟨[.int .i32 0], [], rfl, rfl, rfl⟩⟩, rfl⟩)) ?_)
      intro i0 w hS
      obtain ⟨j1, H⟩ := ite_in H
      obtain ⟨d4, m2, H⟩ := lt_out H
      refine EL.of (EO.append hS 29 29 32 16 2 kS32 c0 c1 a0 rfl (some ⟨i0, 0, none⟩) 1 e5 (Rd.own 0 32 rfl) d4 m2 (fun e8 f1 => Ass.own 32 kS32 (some ⟨i0, 0, none⟩) 1 e5 :: Ass.own 32 kS32 (some ⟨b9, 0, none⟩) 1 b4 :: Ass.own 32 kS32 e8 f1 d4 :: os) 69 (by kernel_rfl) (by kernel_rfl) (by kernel_rfl) (by kernel_rfl) j1 (fun _ _ => rfl) ?_)
      intro e8 f1 w hS
      refine EL.quick 1 [7, 8, 9, 12] [(7, .int .i64 (IntKind.i64.wrap (Int.tmod a4 4))), (8, .int .i64 (IntKind.i64.wrap (Int.tmod a5 4))), (9, .slice e8 d4.length f1), (12, .int .i64 (a0.length : Int))] (by kernel_rfl) ?_
      refine EL.done (by kernel_rfl) ?_
      refine EQ.to ?_
      refine EQ.keep [7, 8, 9, 12] [(7, .int .i64 (IntKind.i64.wrap (Int.tmod a4 4))), (8, .int .i64 (IntKind.i64.wrap (Int.tmod a5 4))), (9, .slice e8 d4.length f1), (12, .int .i64 (a0.length : Int))] (by kernel_rfl) ?_
      exact fun a ha => ⟨d4, e8, f1, ha, (hS.re [2, 2] [2] rfl (sub_self)), H⟩
    ·obtain ⟨a2, a8, a9, ha, hS, H⟩ := hI
     rw [j7] at H
     (try dsimp only at H)
     refine EW.at ?_ a ha
     clear ha a
     refine EW.seq (x := Cd5.r.r.r.r.r.r.r.r.r.l) (y := Cd5.r.r.r.r.r.r.r.r.r.r) (by kernel_rfl) ?_
     refine EW.region (id := 18) (ops := Cd5.r.r.r.r.r.r.r.r.r.l.ops) (by kernel_rfl) ?_
     refine EL.quick 1 [7, 8, 9, 12, 71] [(7, .int .i64 (IntKind.i64.wrap (Int.tmod a4 4))), (8, .int .i64 (IntKind.i64.wrap (Int.tmod a5 4))), (9, .slice a8 a2.length a9), (12, .int .i64 (a0.length : Int)), (71, .slice a8 a2.length a9)] (by kernel_rfl) ?_
     have hS := St.fr hS 1 rfl
     have hS : St B _ (Ass.own 32 kS32 (some ⟨b9, 0, none⟩) 1 b4 :: os) (Ro.sl kS32 a8 a9 a2 :: Ro.sl kS32 a8 a9 a2 :: rs) := hS.re [] [] rfl (sub_cons 0 rfl sub_self)
     obtain ⟨b0, b3, j3, H⟩ := b2_out H
     refine EL.of (EO.callD 16 [.slice a8 a2.length a9, .int .i64 1, .int .i64 1, .int .i64 0] _ 72 (by kernel_rfl) (by kernel_rfl) (by kernel_rfl) (verify_Func.calls j3 hS) ?_)
     rintro v w ⟨rfl, hS⟩
     refine EL.quick 5 [7, 8, 9, 12, 13, 14] [(7, .int .i64 (IntKind.i64.wrap (Int.tmod a4 4))), (8, .int .i64 (IntKind.i64.wrap (Int.tmod a5 4))), (9, .slice a8 a2.length a9), (12, .int .i64 (a0.length : Int)), (13, .int .i64 b0), (14, .int .i64 b3)] (by kernel_rfl) ?_
     refine EL.done (by kernel_rfl) ?_
     refine EQ.code ?_
     refine EW.seq (x := Cd5.r.r.r.r.r.r.r.r.r.r.l) (y := Cd5.r.r.r.r.r.r.r.r.r.r.r) (by kernel_rfl) ?_
     refine EW.region (id := 19) (ops := Cd5.r.r.r.r.r.r.r.r.r.r.l.ops) (by kernel_rfl) ?_
     refine EL.quick 1 [7, 8, 9, 12, 13, 14, 75] [(7, .int .i64 (IntKind.i64.wrap (Int.tmod a4 4))), (8, .int .i64 (IntKind.i64.wrap (Int.tmod a5 4))), (9, .slice a8 a2.length a9), (12, .int .i64 (a0.length : Int)), (13, .int .i64 b0), (14, .int .i64 b3), (75, .slice a8 a2.length a9)] (by kernel_rfl) ?_
     have hS : St B _ (Ass.own 32 kS32 (some ⟨b9, 0, none⟩) 1 b4 :: os) (Ro.sl kS32 a8 a9 a2 :: Ro.sl kS32 a8 a9 a2 :: Ro.sl kS32 a8 a9 a2 :: rs) := hS.re [] [] rfl (sub_cons 0 rfl sub_self)
     obtain ⟨a1, j4, H⟩ := b1_out H
     refine EL.of (EO.callD 19 [.slice a8 a2.length a9] _ 76 (by kernel_rfl) (by kernel_rfl) (by kernel_rfl) (verify_Depths.calls j4 hS) ?_)
     rintro v w ⟨a7, a3, rfl, hS⟩
     refine EL.quick 1 [7, 8, 9, 12, 13, 14, 15] [(7, .int .i64 (IntKind.i64.wrap (Int.tmod a4 4))), (8, .int .i64 (IntKind.i64.wrap (Int.tmod a5 4))), (9, .slice a8 a2.length a9), (12, .int .i64 (a0.length : Int)), (13, .int .i64 b0), (14, .int .i64 b3), (15, .slice a7 a1.length a3)] (by kernel_rfl) ?_
     refine EL.done (by kernel_rfl) ?_
     refine EQ.code ?_
     refine EW.seq (x := Cd5.r.r.r.r.r.r.r.r.r.r.r.l) (y := Cd5.r.r.r.r.r.r.r.r.r.r.r.r) (by kernel_rfl) ?_
     refine EW.seq (x := Cd5.r.r.r.r.r.r.r.r.r.r.r.l.l) (y := Cd5.r.r.r.r.r.r.r.r.r.r.r.l.r) (by kernel_rfl) ?_
     refine EW.region (id := 20) (ops := Cd5.r.r.r.r.r.r.r.r.r.r.r.l.l.ops) (by kernel_rfl) ?_
     refine EL.quick 3 [7, 9, 12, 13, 14, 15, 79] [(7, .int .i64 (IntKind.i64.wrap (Int.tmod a4 4))), (9, .slice a8 a2.length a9), (12, .int .i64 (a0.length : Int)), (13, .int .i64 b0), (14, .int .i64 b3), (15, .slice a7 a1.length a3), (79, .bool (decide ((IntKind.i64.wrap (Int.tmod a4 4)) = (IntKind.i64.wrap (Int.tmod a5 4)))))] (by kernel_rfl) ?_
     refine EL.done (by kernel_rfl) ?_
     refine EQ.code ?_
     refine EW.condP (o := (.tmp 79)) (x := Cd5.r.r.r.r.r.r.r.r.r.r.r.l.r.l) (y := Cd5.r.r.r.r.r.r.r.r.r.r.r.l.r.r) ((IntKind.i64.wrap (Int.tmod a4 4)) = (IntKind.i64.wrap (Int.tmod a5 4))) (by kernel_rfl) (by kernel_rfl) (fun g3 => ?_) (fun g3 => ?_)
     ·rw [if_pos g3] at H
      refine EW.seq (x := Cd5.r.r.r.r.r.r.r.r.r.r.r.l.r.l.l) (y := Cd5.r.r.r.r.r.r.r.r.r.r.r.l.r.l.r) (by kernel_rfl) ?_
      refine EW.region (id := 21) (ops := Cd5.r.r.r.r.r.r.r.r.r.r.r.l.r.l.l.ops) (by kernel_rfl) ?_
      refine EL.quick 3 [7, 9, 12, 15, 82] [(7, .int .i64 (IntKind.i64.wrap (Int.tmod a4 4))), (9, .slice a8 a2.length a9), (12, .int .i64 (a0.length : Int)), (15, .slice a7 a1.length a3), (82, .bool (decide (b3 = 0)))] (by kernel_rfl) ?_
      by_cases f4 : b3 = 0
      ·rw [if_pos f4] at H
       refine EL.keep [7, 9, 12, 15, 82] [(7, .int .i64 (IntKind.i64.wrap (Int.tmod a4 4))), (9, .slice a8 a2.length a9), (12, .int .i64 (a0.length : Int)), (15, .slice a7 a1.length a3), (82, .bool (decide (b3 = 0)))] (by kernel_rfl) ?_
       refine EL.as' [(7, .int .i64 (IntKind.i64.wrap (Int.tmod a4 4))), (9, .slice a8 a2.length a9), (12, .int .i64 (a0.length : Int)), (15, .slice a7 a1.length a3), (82, .bool (true))] (by simp only [dec_t f4, Bool.not_true, Bool.not_false]) ?_
       refine EL.quick 7 [7, 12, 15, 89] [(7, .int .i64 (IntKind.i64.wrap (Int.tmod a4 4))), (12, .int .i64 (a0.length : Int)), (15, .slice a7 a1.length a3), (89, .bool (decide ((a1.length : Int) = (a2.length : Int))))] (by kernel_rfl) ?_
       by_cases f5 : (a1.length : Int) = (a2.length : Int)
       ·rw [if_pos f5] at H
        refine EL.keep [7, 12, 15, 89] [(7, .int .i64 (IntKind.i64.wrap (Int.tmod a4 4))), (12, .int .i64 (a0.length : Int)), (15, .slice a7 a1.length a3), (89, .bool (decide ((a1.length : Int) = (a2.length : Int))))] (by kernel_rfl) ?_
        refine EL.as' [(7, .int .i64 (IntKind.i64.wrap (Int.tmod a4 4))), (12, .int .i64 (a0.length : Int)), (15, .slice a7 a1.length a3), (89, .bool (true))] (by simp only [dec_t f5, Bool.not_true, Bool.not_false]) ?_
        refine EL.quick 2 [7, 89, 90, 91] [(7, .int .i64 (IntKind.i64.wrap (Int.tmod a4 4))), (89, .bool (true)), (90, .slice a7 a1.length a3), (91, .int .i64 (a0.length : Int))] (by kernel_rfl) ?_
        obtain ⟨g4, H⟩ := ite_in H
        obtain ⟨g5, H⟩ := ite_in H
        obtain ⟨g6, rfl⟩ := St.rd_some hS (Rd.own 0 3 rfl) g4 g5
        refine EL.of (EO.Y (YO.idx 39 1 g6 a1.length a3 .i64 (a0.length : Int) 92 (by kernel_rfl) (by kernel_rfl) (by kernel_rfl) (by kernel_rfl) g4 g5) ?_)
        refine EL.of (EO.Y (YO.loadEl hS (Kd.int .i64) g6 a3 a1 (Rd.own 0 3 rfl) 0 (encI .i64) encI_of (a0.length : Int) g4 g5 3 1 0 1 rfl (.int .i64 (a1.getD (a0.length : Int).toNat 0)) 93 (by kernel_rfl) (by kernel_rfl) (by kernel_rfl) (by kernel_rfl)) ?_)
        refine EL.quick 4 [6] [(6, .bool (decide ((a1.getD (a0.length : Int).toNat 0) = (IntKind.i64.wrap (Int.tmod a4 4)))))] (by kernel_rfl) ?_
        refine EL.done (by kernel_rfl) ?_
        refine EQ.code ?_
        refine EW.ret (by kernel_rfl) ?_
        refine EQ.ret ?_
        obtain rfl := Option.some.inj H
        exact EQ.leave (.bool (decide ((a1.getD (a0.length : Int).toNat 0) = (IntKind.i64.wrap (Int.tmod a4 4))))) (by kernel_rfl) ⟨_, rfl, rfl, (hS.re [] [0, 0] rfl (sub_tail (sub_tail (sub_tail (sub_self)))))⟩
       ·rw [if_neg f5] at H
        refine EL.keep [7, 12, 15, 89] [(7, .int .i64 (IntKind.i64.wrap (Int.tmod a4 4))), (12, .int .i64 (a0.length : Int)), (15, .slice a7 a1.length a3), (89, .bool (decide ((a1.length : Int) = (a2.length : Int))))] (by kernel_rfl) ?_
        refine EL.as' [(7, .int .i64 (IntKind.i64.wrap (Int.tmod a4 4))), (12, .int .i64 (a0.length : Int)), (15, .slice a7 a1.length a3), (89, .bool (false))] (by simp only [dec_f f5, Bool.not_true, Bool.not_false]) ?_
        refine EL.quick 8 [6] [(6, .bool (false))] (by kernel_rfl) ?_
        refine EL.done (by kernel_rfl) ?_
        refine EQ.code ?_
        refine EW.ret (by kernel_rfl) ?_
        refine EQ.ret ?_
        obtain rfl := Option.some.inj H
        exact EQ.leave (.bool (false)) (by kernel_rfl) ⟨_, rfl, rfl, (hS.re [] [0, 0] rfl (sub_tail (sub_tail (sub_tail (sub_self)))))⟩
      ·rw [if_neg f4] at H
       refine EL.keep [7, 9, 12, 15, 82] [(7, .int .i64 (IntKind.i64.wrap (Int.tmod a4 4))), (9, .slice a8 a2.length a9), (12, .int .i64 (a0.length : Int)), (15, .slice a7 a1.length a3), (82, .bool (decide (b3 = 0)))] (by kernel_rfl) ?_
       refine EL.as' [(7, .int .i64 (IntKind.i64.wrap (Int.tmod a4 4))), (9, .slice a8 a2.length a9), (12, .int .i64 (a0.length : Int)), (15, .slice a7 a1.length a3), (82, .bool (false))] (by simp only [dec_f f4, Bool.not_true, Bool.not_false]) ?_
       refine EL.quick 15 [6] [(6, .bool (false))] (by kernel_rfl) ?_
       refine EL.done (by kernel_rfl) ?_
       refine EQ.code ?_
       refine EW.ret (by kernel_rfl) ?_
       refine EQ.ret ?_
       obtain rfl := Option.some.inj H
       exact EQ.leave (.bool (false)) (by kernel_rfl) ⟨_, rfl, rfl, (hS.re [] [0, 0] rfl (sub_tail (sub_tail (sub_tail (sub_self)))))⟩
     ·rw [if_neg g3] at H
      refine EW.skip (by kernel_rfl) ?_
      refine EQ.code ?_
      refine EW.seq (x := Cd5.r.r.r.r.r.r.r.r.r.r.r.r.l) (y := Cd5.r.r.r.r.r.r.r.r.r.r.r.r.r) (by kernel_rfl) ?_
      refine EW.region (id := 22) (ops := Cd5.r.r.r.r.r.r.r.r.r.r.r.r.l.ops) (by kernel_rfl) ?_
      refine EL.quick 3 [12, 13, 15, 99] [(12, .int .i64 (a0.length : Int)), (13, .int .i64 b0), (15, .slice a7 a1.length a3), (99, .bool (decide (b3 = 24)))] (by kernel_rfl) ?_
      by_cases f6 : b3 = 24
      ·rw [if_pos f6] at H
       refine EL.keep [12, 13, 15, 99] [(12, .int .i64 (a0.length : Int)), (13, .int .i64 b0), (15, .slice a7 a1.length a3), (99, .bool (decide (b3 = 24)))] (by kernel_rfl) ?_
       refine EL.as' [(12, .int .i64 (a0.length : Int)), (13, .int .i64 b0), (15, .slice a7 a1.length a3), (99, .bool (true))] (by simp only [dec_t f6, Bool.not_true, Bool.not_false]) ?_
       refine EL.quick 5 [15, 104] [(15, .slice a7 a1.length a3), (104, .bool (decide (b0 = (a0.length : Int))))] (by kernel_rfl) ?_
       by_cases f7 : b0 = (a0.length : Int)
       ·rw [if_pos f7] at H
        refine EL.keep [15, 104] [(15, .slice a7 a1.length a3), (104, .bool (decide (b0 = (a0.length : Int))))] (by kernel_rfl) ?_
        refine EL.as' [(15, .slice a7 a1.length a3), (104, .bool (true))] (by simp only [dec_t f7, Bool.not_true, Bool.not_false]) ?_
        refine EL.quick 5 [6] [(6, .bool (decide ((a1.length : Int) = 0)))] (by kernel_rfl) ?_
        refine EL.done (by kernel_rfl) ?_
        refine EQ.code ?_
        refine EW.ret (by kernel_rfl) ?_
        obtain rfl := Option.some.inj H
        exact EQ.leave (.bool (decide ((a1.length : Int) = 0))) (by kernel_rfl) ⟨_, rfl, rfl, (hS.re [] [0, 0] rfl (sub_tail (sub_tail (sub_tail (sub_self)))))⟩
       ·rw [if_neg f7] at H
        refine EL.keep [15, 104] [(15, .slice a7 a1.length a3), (104, .bool (decide (b0 = (a0.length : Int))))] (by kernel_rfl) ?_
        refine EL.as' [(15, .slice a7 a1.length a3), (104, .bool (false))] (by simp only [dec_f f7, Bool.not_true, Bool.not_false]) ?_
        refine EL.quick 5 [6] [(6, .bool (false))] (by kernel_rfl) ?_
        refine EL.done (by kernel_rfl) ?_
        refine EQ.code ?_
        refine EW.ret (by kernel_rfl) ?_
        obtain rfl := Option.some.inj H
        exact EQ.leave (.bool (false)) (by kernel_rfl) ⟨_, rfl, rfl, (hS.re [] [0, 0] rfl (sub_tail (sub_tail (sub_tail (sub_self)))))⟩
      ·rw [if_neg f6] at H
       refine EL.keep [12, 13, 15, 99] [(12, .int .i64 (a0.length : Int)), (13, .int .i64 b0), (15, .slice a7 a1.length a3), (99, .bool (decide (b3 = 24)))] (by kernel_rfl) ?_
       refine EL.as' [(12, .int .i64 (a0.length : Int)), (13, .int .i64 b0), (15, .slice a7 a1.length a3), (99, .bool (false))] (by simp only [dec_f f6, Bool.not_true, Bool.not_false]) ?_
       refine EL.quick 10 [6] [(6, .bool (false))] (by kernel_rfl) ?_
       refine EL.done (by kernel_rfl) ?_
       refine EQ.code ?_
       refine EW.ret (by kernel_rfl) ?_
       obtain rfl := Option.some.inj H
       exact EQ.leave (.bool (false)) (by kernel_rfl) ⟨_, rfl, rfl, (hS.re [] [0, 0] rfl (sub_tail (sub_tail (sub_tail (sub_self)))))⟩
 ·rw [if_neg f9] at H
  refine EW.seq (x := Cd5.r.l.r.l.l) (y := Cd5.r.l.r.l.r) (by kernel_rfl) ?_
  refine EW.region (id := 2) (ops := Cd5.r.l.r.l.l.ops) (by kernel_rfl) ?_
  refine EL.quick 1 [6] [(6, .bool (false))] (by kernel_rfl) ?_
  refine EL.done (by kernel_rfl) ?_
  refine EQ.code ?_
  refine EW.ret (by kernel_rfl) ?_
  refine EQ.ret ?_
  obtain rfl := Option.some.inj H
  exact EQ.leave (.bool (false)) (by kernel_rfl) ⟨_, rfl, rfl, (hS.re [] [] rfl (sub_self))⟩

def confidantlaw8_VerifyJumps.Pure : Prop := ∀ (a4 : Int) (a5 : Int) (a6 : Bool), (Lit.int .u8 a4).wf = true → (Lit.int .u8 a5).wf = true → ∃ K, confidantlaw8_VerifyJumps.f K a4 a5 a6 = some true

end Go.Proofs.Ytlcnkngpankkpaa.G
