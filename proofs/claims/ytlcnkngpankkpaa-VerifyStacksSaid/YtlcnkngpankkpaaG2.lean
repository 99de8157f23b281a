import Derived.Test.YtlcnkngpankkpaaProg
import Derived.Test.YtlcnkngpankkpaaFwEq
import Derived.Test.YtlcnkngpankkpaaFwOpen
import Derived.Test.YtlcnkngpankkpaaG0
import Derived.Test.YtlcnkngpankkpaaG1
namespace Go.Proofs.Ytlcnkngpankkpaa.G
open Go Go.Fw Go.RowKit Go.Proofs
set_option linter.unusedVariables false
set_option linter.unusedSimpArgs false

/-! ### confidant/confidantlaw8.VerifyStacks: function 4 -/
def confidantlaw8_VerifyStacks.l1 (K : Nat) (a4 : Int) (c6 : (List S32) → Option Bool) : Nat → (List S32) → Int → Option Bool
 | 0, _, _ => none
 | n + 1, b4, b0 => if b0 < (IntKind.i64.wrap (Int.tmod a4 44)) then (lt ([(⟨2, 0⟩ : S32)] : List S32) fun d4 => (if (b4.length + d4.length) * 16 ≤ 140737488355328 then (lt (b4 ++ d4) fun c3 => (confidantlaw8_VerifyStacks.l1 K a4 c6 n c3 (IntKind.i64.wrap (b0 + 1)))) else none)) else (c6 b4)
def confidantlaw8_VerifyStacks.l0 (K : Nat) (a3 : Int) (c5 : (List S32) → Option Bool) : Nat → (List S32) → Int → Option Bool
 | 0, _, _ => none
 | n + 1, b3, a7 => if a7 < (IntKind.i64.wrap (Int.tmod a3 40)) then (lt ([(⟨1, IntKind.i32.wrap a7⟩ : S32)] : List S32) fun d3 => (if (b3.length + d3.length) * 16 ≤ 140737488355328 then (lt (b3 ++ d3) fun c2 => (confidantlaw8_VerifyStacks.l0 K a3 c5 n c2 (IntKind.i64.wrap (a7 + 1)))) else none)) else (c5 b3)
def confidantlaw8_VerifyStacks.f (K : Nat) (a3 : Int) (a4 : Int) : Option Bool := b1 (confidantlaw8_known.f K) fun (d8 : Bool) => (if d8 = true then (lt (fun (b6 : List S32) => (lt (fun (b7 : List S32) => (lt ([(⟨26, 0⟩ : S32)] : List S32) fun c4 => (if (b7.length + c4.length) * 16 ≤ 140737488355328 then (lt (b7 ++ c4) fun a1 => (b2 (verify_Func.f K a1 1 1 0) fun (a8 : Int) (a6 : Int) => (if (IntKind.i64.wrap (Int.tmod a3 40)) > 32 then (if a6 = 24 then (some (decide (a8 = 32))) else (some false)) else (if (IntKind.i64.wrap (Int.tmod a4 44)) > (IntKind.i64.wrap (Int.tmod a3 40)) then (if a6 = 24 then (some (decide (a8 = (IntKind.i64.wrap (2 * (IntKind.i64.wrap (Int.tmod a3 40))))))) else (some false)) else (b1 (verify_Depths.f K a1) fun (a0 : List Int) => (if a6 = 0 then (if (a0.length : Int) = (a1.length : Int) then (if 0 ≤ (IntKind.i64.wrap ((a0.length : Int) - 1)) then (if (IntKind.i64.wrap ((a0.length : Int) - 1)) < (a0.length : Int) then (some (decide ((a0.getD (IntKind.i64.wrap ((a0.length : Int) - 1)).toNat 0) = (IntKind.i64.wrap ((IntKind.i64.wrap (Int.tmod a3 40)) - (IntKind.i64.wrap (Int.tmod a4 44))))))) else none) else none) else (some false)) else (some false))))))) else none))) fun c6 => (confidantlaw8_VerifyStacks.l1 K a4 c6 K b6 0))) fun c5 => (confidantlaw8_VerifyStacks.l0 K a3 c5 K ([] : List S32) 0)) else (some false))
set_option maxRecDepth 100000 in
theorem confidantlaw8_VerifyStacks.calls {K : Nat} {a3 : Int} {a4 : Int} {d5 : Bool} {B w : World} {os : List Ass} {rs : List Ro} (H : confidantlaw8_VerifyStacks.f K a3 a4 = some d5) (hS : St B w (os) (rs)) :
  Calls Try.prog 4 [.int .u8 a3, .int .u8 a4].toArray w (fun en w' => ∃ v, en = .returned v ∧ v = .bool (d5) ∧ St B w' (os) (rs)) := by
 unfold confidantlaw8_VerifyStacks.f at H
 refine calls_of_EW (args := [.int .u8 a3, .int .u8 a4]) (c := Cd4) 96 Try.func4 (by kernel_rfl) (by kernel_rfl) (by kernel_rfl) ?_
 refine EW.seq (x := Cd4.l) (y := Cd4.r) (by kernel_rfl) ?_
 refine EW.region (id := 0) (ops := Cd4.l.ops) (by kernel_rfl) ?_
 refine EL.quick 1 [0, 1] [(0, .int .u8 a3), (1, .int .u8 a4)] (by kernel_rfl) ?_
 refine EL.done (by kernel_rfl) ?_
 refine EQ.code ?_
 refine EW.seq (x := Cd4.r.l) (y := Cd4.r.r) (by kernel_rfl) ?_
 refine EW.seq (x := Cd4.r.l.l) (y := Cd4.r.l.r) (by kernel_rfl) ?_
 refine EW.region (id := 1) (ops := Cd4.r.l.l.ops) (by kernel_rfl) ?_
 obtain ⟨d8, g0, H⟩ := b1_out H
 refine EL.of (EO.callD 12 [] _ 12 (by kernel_rfl) (by kernel_rfl) (by kernel_rfl) (confidantlaw8_known.calls g0 hS) ?_)
 rintro v w ⟨rfl, hS⟩
 refine EL.quick 1 [0, 1, 13] [(0, .int .u8 a3), (1, .int .u8 a4), (13, .bool (!(d8)))] (by kernel_rfl) ?_
 refine EL.done (by kernel_rfl) ?_
 refine EQ.code ?_
 refine EW.condQ (b := !(d8)) (o := (.tmp 13)) (x := Cd4.r.l.r.l) (y := Cd4.r.l.r.r) (d8 = true) (false) (by kernel_rfl) (by kernel_rfl) ⟨fun h => (by rw [h] <;> rfl), fun h => (by rw [Bool.eq_false_iff.2 h] <;> rfl)⟩ (fun e4 => ?_) (fun e4 => ?_)
 ·rw [if_pos e4] at H
  refine EW.skip (by kernel_rfl) ?_
  refine EQ.code ?_
  refine EW.seq (x := Cd4.r.r.l) (y := Cd4.r.r.r) (by kernel_rfl) ?_
  refine EW.region (id := 3) (ops := Cd4.r.r.l.ops) (by kernel_rfl) ?_
  refine EL.quick 4 [1, 5] [(1, .int .u8 a4), (5, .int .i64 (IntKind.i64.wrap (Int.tmod a3 40)))] (by kernel_rfl) ?_
  refine EL.done (by kernel_rfl) ?_
  refine EQ.code ?_
  refine EW.seq (x := Cd4.r.r.r.l) (y := Cd4.r.r.r.r) (by kernel_rfl) ?_
  refine EW.region (id := 4) (ops := Cd4.r.r.r.l.ops) (by kernel_rfl) ?_
  refine EL.quick 1 [1, 5, 6] [(1, .int .u8 a4), (5, .int .i64 (IntKind.i64.wrap (Int.tmod a3 40))), (6, .slice none ([] : List S32).length 0)] (by kernel_rfl) ?_
  refine EL.done (by kernel_rfl) ?_
  refine EQ.code ?_
  obtain ⟨c5, g3, H⟩ := lt_out H
  refine EW.cut (x := Cd4.r.r.r.r.l) (y := Cd4.r.r.r.r.r) (fun a w => ∃ b6 : List S32, ∃ c7 : Option Addr, ∃ d0 : Nat, Sat 96 [(1, .int .u8 a4), (5, .int .i64 (IntKind.i64.wrap (Int.tmod a3 40))), (6, .slice c7 b6.length d0)] a ∧ St B w (Ass.own 32 kS32 c7 d0 b6 :: os) (rs) ∧ c5 b6 = some d5) (by kernel_rfl) ?_ (fun a w hI => ?_)
  ·refine EW.seq (x := Cd4.r.r.r.r.l.l) (y := Cd4.r.r.r.r.l.r) (by kernel_rfl) ?_
   refine EW.region (id := 5) (ops := Cd4.r.r.r.r.l.l.ops) (by kernel_rfl) ?_
   refine EL.quick 1 [1, 5, 6, 7] [(1, .int .u8 a4), (5, .int .i64 (IntKind.i64.wrap (Int.tmod a3 40))), (6, .slice none ([] : List S32).length 0), (7, .int .i64 0)] (by kernel_rfl) ?_
   refine EL.done (by kernel_rfl) ?_
   refine EQ.code ?_
   refine EW.block (x := Cd4.r.r.r.r.l.r.l) (id := 0) (by kernel_rfl) ?_
   have hS := St.nilO hS 32 kS32
   refine EW.loop (x := Cd4.r.r.r.r.l.r.l.l) (fun n a w => ∃ b3 : List S32, ∃ a7 : Int, ∃ b8 : Option Addr, ∃ c0 : Nat, Sat 96 [(1, .int .u8 a4), (5, .int .i64 (IntKind.i64.wrap (Int.tmod a3 40))), (6, .slice b8 b3.length c0), (7, .int .i64 a7)] a ∧ St B w (Ass.own 32 kS32 b8 c0 b3 :: os) (rs) ∧ confidantlaw8_VerifyStacks.l0 K a3 c5 n b3 a7 = some d5) K (by kernel_rfl) ?_ (fun n a w hI => ?_)
   ·refine EQ.keep [1, 5, 6, 7] [(1, .int .u8 a4), (5, .int .i64 (IntKind.i64.wrap (Int.tmod a3 40))), (6, .slice none ([] : List S32).length 0), (7, .int .i64 0)] (by kernel_rfl) ?_
    exact fun a ha => ⟨([] : List S32), 0, none, 0, ha, (hS.re [0] [] rfl (sub_self)), H⟩
   ·obtain ⟨b3, a7, b8, c0, ha, hS, H⟩ := hI
    obtain _ | n := n
    ·simp [confidantlaw8_VerifyStacks.l0] at H
    rw [confidantlaw8_VerifyStacks.l0.eq_2] at H
    refine EW.at ?_ a ha
    clear ha a
    refine EW.seq (x := Cd4.r.r.r.r.l.r.l.l.l) (y := Cd4.r.r.r.r.l.r.l.l.r) (by kernel_rfl) ?_
    refine EW.seq (x := Cd4.r.r.r.r.l.r.l.l.l.l) (y := Cd4.r.r.r.r.l.r.l.l.l.r) (by kernel_rfl) ?_
    refine EW.region (id := 6) (ops := Cd4.r.r.r.r.l.r.l.l.l.l.ops) (by kernel_rfl) ?_
    refine EL.quick 3 [1, 5, 6, 7, 19] [(1, .int .u8 a4), (5, .int .i64 (IntKind.i64.wrap (Int.tmod a3 40))), (6, .slice b8 b3.length c0), (7, .int .i64 a7), (19, .bool (decide (a7 < (IntKind.i64.wrap (Int.tmod a3 40)))))] (by kernel_rfl) ?_
    refine EL.done (by kernel_rfl) ?_
    refine EQ.code ?_
    refine EW.condP (o := (.tmp 19)) (x := Cd4.r.r.r.r.l.r.l.l.l.r.l) (y := Cd4.r.r.r.r.l.r.l.l.l.r.r) (a7 < (IntKind.i64.wrap (Int.tmod a3 40))) (by kernel_rfl) (by kernel_rfl) (fun e5 => ?_) (fun e5 => ?_)
    ·rw [if_pos e5] at H
     refine EW.skip (by kernel_rfl) ?_
     refine EQ.code ?_
     refine EW.seq (x := Cd4.r.r.r.r.l.r.l.l.r.l) (y := Cd4.r.r.r.r.l.r.l.l.r.r) (by kernel_rfl) ?_
     refine EW.block (x := Cd4.r.r.r.r.l.r.l.l.r.l.l) (id := 1) (by kernel_rfl) ?_
     refine EW.region (id := 8) (ops := Cd4.r.r.r.r.l.r.l.l.r.l.l.ops) (by kernel_rfl) ?_
     refine EL.quick 4 [1, 5, 7, 22, 25] [(1, .int .u8 a4), (5, .int .i64 (IntKind.i64.wrap (Int.tmod a3 40))), (7, .int .i64 a7), (22, .slice b8 b3.length c0), (25, .agg #[.int .i64 1, .int .i32 (IntKind.i32.wrap a7)])] (by kernel_rfl) ?_
     obtain ⟨d3, f4, H⟩ := lt_out H
     refine EL.of (EO.lit hS kS32 32 29 1 #[(0, .agg #[.int .i64 1, .int .i32 (IntKind.i32.wrap a7)])] [.int .i64 1, .int .i32 (IntKind.i32.wrap a7)] d3 26 (by kernel_rfl) (by kernel_rfl) (by kernel_rfl) (fun _ => (by kernel_rfl)) (by rw [f4]; rfl) (by kernel_rfl) (fun w G hr => (by rw [f4]; exact ⟨[.int .i64 1, .int .i32 (IntKind.i32.wrap a7)], [], rfl, ⟨[.int .i64 1], [.int .i32 (IntKind.i32.wrap a7)], rfl, rfl, ⟨[.int .i32 (IntKind.i32.wrap a7)], [], rfl, rfl, rfl⟩⟩, rfl⟩)) ?_)
     intro f2 w hS
     obtain ⟨f7, H⟩ := ite_in H
     obtain ⟨c2, g5, H⟩ := lt_out H
     refine EL.of (EO.append hS 29 29 32 16 1 kS32 b8 c0 b3 rfl (some ⟨f2, 0, none⟩) 1 d3 (Rd.own 0 32 rfl) c2 g5 (fun c8 d1 => Ass.own 32 kS32 (some ⟨f2, 0, none⟩) 1 d3 :: Ass.own 32 kS32 c8 d1 c2 :: os) 27 (by kernel_rfl) (by kernel_rfl) (by kernel_rfl) (by kernel_rfl) f7 (fun _ _ => rfl) ?_)
     intro c8 d1 w hS
     refine EL.quick 1 [1, 5, 6, 7] [(1, .int .u8 a4), (5, .int .i64 (IntKind.i64.wrap (Int.tmod a3 40))), (6, .slice c8 c2.length d1), (7, .int .i64 a7)] (by kernel_rfl) ?_
     refine EL.done (by kernel_rfl) ?_
     refine EQ.pop ?_
     refine EQ.code ?_
     refine EW.region (id := 7) (ops := Cd4.r.r.r.r.l.r.l.l.r.r.ops) (by kernel_rfl) ?_
     refine EL.quick 3 [1, 5, 6, 7] [(1, .int .u8 a4), (5, .int .i64 (IntKind.i64.wrap (Int.tmod a3 40))), (6, .slice c8 c2.length d1), (7, .int .i64 (IntKind.i64.wrap (a7 + 1)))] (by kernel_rfl) ?_
     refine EL.done (by kernel_rfl) ?_
     refine EQ.to ?_
     refine EQ.keep [1, 5, 6, 7] [(1, .int .u8 a4), (5, .int .i64 (IntKind.i64.wrap (Int.tmod a3 40))), (6, .slice c8 c2.length d1), (7, .int .i64 (IntKind.i64.wrap (a7 + 1)))] (by kernel_rfl) ?_
     exact fun a ha => ⟨n, Nat.lt_succ_self n, c2, IntKind.i64.wrap (a7 + 1), c8, d1, ha, (hS.re [1] [1] rfl (sub_self)), H⟩
    ·rw [if_neg e5] at H
     refine EW.exit (id := 0) (by kernel_rfl) ?_
     refine EQ.exitCode ?_
     refine EQ.exitTo ?_
     refine EQ.exitHere ?_
     refine EQ.to ?_
     refine EQ.keep [1, 5, 6] [(1, .int .u8 a4), (5, .int .i64 (IntKind.i64.wrap (Int.tmod a3 40))), (6, .slice b8 b3.length c0)] (by kernel_rfl) ?_
     exact fun a ha => ⟨b3, b8, c0, ha, (hS.re [0] [] rfl (sub_self)), H⟩
  ·obtain ⟨b6, c7, d0, ha, hS, H⟩ := hI
   rw [g3] at H
   (try dsimp only at H)
   refine EW.at ?_ a ha
   clear ha a
   obtain ⟨c6, g4, H⟩ := lt_out H
   refine EW.cut (x := Cd4.r.r.r.r.r.l) (y := Cd4.r.r.r.r.r.r) (fun a w => ∃ b7 : List S32, ∃ d6 : Option Addr, ∃ d7 : Nat, Sat 96 [(1, .int .u8 a4), (5, .int .i64 (IntKind.i64.wrap (Int.tmod a3 40))), (6, .slice d6 b7.length d7)] a ∧ St B w (Ass.own 32 kS32 d6 d7 b7 :: os) (rs) ∧ c6 b7 = some d5) (by kernel_rfl) ?_ (fun a w hI => ?_)
   ·refine EW.seq (x := Cd4.r.r.r.r.r.l.l) (y := Cd4.r.r.r.r.r.l.r) (by kernel_rfl) ?_
    refine EW.region (id := 9) (ops := Cd4.r.r.r.r.r.l.l.ops) (by kernel_rfl) ?_
    refine EL.quick 1 [1, 5, 6, 8] [(1, .int .u8 a4), (5, .int .i64 (IntKind.i64.wrap (Int.tmod a3 40))), (6, .slice c7 b6.length d0), (8, .int .i64 0)] (by kernel_rfl) ?_
    refine EL.done (by kernel_rfl) ?_
    refine EQ.code ?_
    refine EW.block (x := Cd4.r.r.r.r.r.l.r.l) (id := 2) (by kernel_rfl) ?_
    refine EW.loop (x := Cd4.r.r.r.r.r.l.r.l.l) (fun n a w => ∃ b4 : List S32, ∃ b0 : Int, ∃ b9 : Option Addr, ∃ c1 : Nat, Sat 96 [(1, .int .u8 a4), (5, .int .i64 (IntKind.i64.wrap (Int.tmod a3 40))), (6, .slice b9 b4.length c1), (8, .int .i64 b0)] a ∧ St B w (Ass.own 32 kS32 b9 c1 b4 :: os) (rs) ∧ confidantlaw8_VerifyStacks.l1 K a4 c6 n b4 b0 = some d5) K (by kernel_rfl) ?_ (fun n a w hI => ?_)
    ·refine EQ.keep [1, 5, 6, 8] [(1, .int .u8 a4), (5, .int .i64 (IntKind.i64.wrap (Int.tmod a3 40))), (6, .slice c7 b6.length d0), (8, .int .i64 0)] (by kernel_rfl) ?_
     exact fun a ha => ⟨b6, 0, c7, d0, ha, (hS.re [0] [] rfl (sub_self)), H⟩
    ·obtain ⟨b4, b0, b9, c1, ha, hS, H⟩ := hI
     obtain _ | n := n
     ·simp [confidantlaw8_VerifyStacks.l1] at H
     rw [confidantlaw8_VerifyStacks.l1.eq_2] at H
     refine EW.at ?_ a ha
     clear ha a
     refine EW.seq (x := Cd4.r.r.r.r.r.l.r.l.l.l) (y := Cd4.r.r.r.r.r.l.r.l.l.r) (by kernel_rfl) ?_
     refine EW.seq (x := Cd4.r.r.r.r.r.l.r.l.l.l.l) (y := Cd4.r.r.r.r.r.l.r.l.l.l.r) (by kernel_rfl) ?_
     refine EW.region (id := 10) (ops := Cd4.r.r.r.r.r.l.r.l.l.l.l.ops) (by kernel_rfl) ?_
     refine EL.quick 5 [1, 5, 6, 8, 32] [(1, .int .u8 a4), (5, .int .i64 (IntKind.i64.wrap (Int.tmod a3 40))), (6, .slice b9 b4.length c1), (8, .int .i64 b0), (32, .bool (decide (b0 < (IntKind.i64.wrap (Int.tmod a4 44)))))] (by kernel_rfl) ?_
     refine EL.done (by kernel_rfl) ?_
     refine EQ.code ?_
     refine EW.condP (o := (.tmp 32)) (x := Cd4.r.r.r.r.r.l.r.l.l.l.r.l) (y := Cd4.r.r.r.r.r.l.r.l.l.l.r.r) (b0 < (IntKind.i64.wrap (Int.tmod a4 44))) (by kernel_rfl) (by kernel_rfl) (fun e6 => ?_) (fun e6 => ?_)
     ·rw [if_pos e6] at H
      refine EW.skip (by kernel_rfl) ?_
      refine EQ.code ?_
      refine EW.seq (x := Cd4.r.r.r.r.r.l.r.l.l.r.l) (y := Cd4.r.r.r.r.r.l.r.l.l.r.r) (by kernel_rfl) ?_
      refine EW.block (x := Cd4.r.r.r.r.r.l.r.l.l.r.l.l) (id := 3) (by kernel_rfl) ?_
      refine EW.region (id := 12) (ops := Cd4.r.r.r.r.r.l.r.l.l.r.l.l.ops) (by kernel_rfl) ?_
      refine EL.quick 2 [1, 5, 8, 35, 36] [(1, .int .u8 a4), (5, .int .i64 (IntKind.i64.wrap (Int.tmod a3 40))), (8, .int .i64 b0), (35, .slice b9 b4.length c1), (36, .agg #[.int .i64 2, .int .i32 0])] (by kernel_rfl) ?_
      obtain ⟨d4, f5, H⟩ := lt_out H
      refine EL.of (EO.lit hS kS32 32 29 1 #[(0, .agg #[.int .i64 2, .int .i32 0])] [.int .i64 2, .int .i32 0] d4 37 (by kernel_rfl) (by kernel_rfl) (by kernel_rfl) (fun _ => (by kernel_rfl)) (by rw [f5]; rfl) (by kernel_rfl) (fun w G hr => (by rw [f5]; exact ⟨[.int .i64 2, .int .i32 0], [], rfl, ⟨[.int .i64 2], [.int .i32 0], rfl, rfl, ⟨[.int .i32 0], [], rfl, rfl, rfl⟩⟩, rfl⟩)) ?_)
      intro f3 w hS
      obtain ⟨f8, H⟩ := ite_in H
      obtain ⟨c3, g6, H⟩ := lt_out H
      refine EL.of (EO.append hS 29 29 32 16 1 kS32 b9 c1 b4 rfl (some ⟨f3, 0, none⟩) 1 d4 (Rd.own 0 32 rfl) c3 g6 (fun c9 d2 => Ass.own 32 kS32 (some ⟨f3, 0, none⟩) 1 d4 :: Ass.own 32 kS32 c9 d2 c3 :: os) 38 (by kernel_rfl) (by kernel_rfl) (by kernel_rfl) (by kernel_rfl) f8 (fun _ _ => rfl) ?_)
      intro c9 d2 w hS
      refine EL.quick 1 [1, 5, 6, 8] [(1, .int .u8 a4), (5, .int .i64 (IntKind.i64.wrap (Int.tmod a3 40))), (6, .slice c9 c3.length d2), (8, .int .i64 b0)] (by kernel_rfl) ?_
      refine EL.done (by kernel_rfl) ?_
      refine EQ.pop ?_
      refine EQ.code ?_
      refine EW.region (id := 11) (ops := Cd4.r.r.r.r.r.l.r.l.l.r.r.ops) (by kernel_rfl) ?_
      refine EL.quick 3 [1, 5, 6, 8] [(1, .int .u8 a4), (5, .int .i64 (IntKind.i64.wrap (Int.tmod a3 40))), (6, .slice c9 c3.length d2), (8, .int .i64 (IntKind.i64.wrap (b0 + 1)))] (by kernel_rfl) ?_
      refine EL.done (by kernel_rfl) ?_
      refine EQ.to ?_
      refine EQ.keep [1, 5, 6, 8] [(1, .int .u8 a4), (5, .int .i64 (IntKind.i64.wrap (Int.tmod a3 40))), (6, .slice c9 c3.length d2), (8, .int .i64 (IntKind.i64.wrap (b0 + 1)))] (by kernel_rfl) ?_
      exact fun a ha => ⟨n, Nat.lt_succ_self n, c3, IntKind.i64.wrap (b0 + 1), c9, d2, ha, (hS.re [1] [1] rfl (sub_self)), H⟩
     ·rw [if_neg e6] at H
      refine EW.exit (id := 2) (by kernel_rfl) ?_
      refine EQ.exitCode ?_
      refine EQ.exitTo ?_
      refine EQ.exitHere ?_
      refine EQ.to ?_
      refine EQ.keep [1, 5, 6] [(1, .int .u8 a4), (5, .int .i64 (IntKind.i64.wrap (Int.tmod a3 40))), (6, .slice b9 b4.length c1)] (by kernel_rfl) ?_
      exact fun a ha => ⟨b4, b9, c1, ha, (hS.re [0] [] rfl (sub_self)), H⟩
   ·obtain ⟨b7, d6, d7, ha, hS, H⟩ := hI
    rw [g4] at H
    (try dsimp only at H)
    refine EW.at ?_ a ha
    clear ha a
    refine EW.seq (x := Cd4.r.r.r.r.r.r.l) (y := Cd4.r.r.r.r.r.r.r) (by kernel_rfl) ?_
    refine EW.region (id := 13) (ops := Cd4.r.r.r.r.r.r.l.ops) (by kernel_rfl) ?_
    refine EL.quick 2 [1, 5, 39, 40] [(1, .int .u8 a4), (5, .int .i64 (IntKind.i64.wrap (Int.tmod a3 40))), (39, .slice d6 b7.length d7), (40, .agg #[.int .i64 26, .int .i32 0])] (by kernel_rfl) ?_
    obtain ⟨c4, f6, H⟩ := lt_out H
    refine EL.of (EO.lit hS kS32 32 29 1 #[(0, .agg #[.int .i64 26, .int .i32 0])] [.int .i64 26, .int .i32 0] c4 41 (by kernel_rfl) (by kernel_rfl) (by kernel_rfl) (fun _ => (by kernel_rfl)) (by rw [f6]; rfl) (by kernel_rfl) (fun w G hr => (by rw [f6]; exact ⟨[.int .i64 26, .int .i32 0], [], rfl, ⟨[.int .i64 26], [.int .i32 0], rfl, rfl, ⟨[.int .i32 0], [], rfl, rfl, rfl⟩⟩, rfl⟩)) ?_)
    intro d9 w hS
    obtain ⟨f9, H⟩ := ite_in H
    obtain ⟨a1, g7, H⟩ := lt_out H
    refine EL.of (EO.append hS 29 29 32 16 1 kS32 d6 d7 b7 rfl (some ⟨d9, 0, none⟩) 1 c4 (Rd.own 0 32 rfl) a1 g7 (fun a2 a5 => Ass.own 32 kS32 (some ⟨d9, 0, none⟩) 1 c4 :: Ass.own 32 kS32 a2 a5 a1 :: os) 42 (by kernel_rfl) (by kernel_rfl) (by kernel_rfl) (by kernel_rfl) f9 (fun _ _ => rfl) ?_)
    intro a2 a5 w hS
    refine EL.quick 1 [1, 5, 6] [(1, .int .u8 a4), (5, .int .i64 (IntKind.i64.wrap (Int.tmod a3 40))), (6, .slice a2 a1.length a5)] (by kernel_rfl) ?_
    refine EL.done (by kernel_rfl) ?_
    refine EQ.code ?_
    refine EW.seq (x := Cd4.r.r.r.r.r.r.r.l) (y := Cd4.r.r.r.r.r.r.r.r) (by kernel_rfl) ?_
    refine EW.region (id := 14) (ops := Cd4.r.r.r.r.r.r.r.l.ops) (by kernel_rfl) ?_
    refine EL.quick 1 [1, 5, 6, 44] [(1, .int .u8 a4), (5, .int .i64 (IntKind.i64.wrap (Int.tmod a3 40))), (6, .slice a2 a1.length a5), (44, .slice a2 a1.length a5)] (by kernel_rfl) ?_
    have hS := St.fr hS 1 rfl
    have hS : St B _ (Ass.own 32 kS32 (some ⟨d9, 0, none⟩) 1 c4 :: os) (Ro.sl kS32 a2 a5 a1 :: Ro.sl kS32 a2 a5 a1 :: rs) := hS.re [] [] rfl (sub_cons 0 rfl sub_self)
    obtain ⟨a8, a6, g1, H⟩ := b2_out H
    refine EL.of (EO.callD 16 [.slice a2 a1.length a5, .int .i64 1, .int .i64 1, .int .i64 0] _ 45 (by kernel_rfl) (by kernel_rfl) (by kernel_rfl) (verify_Func.calls g1 hS) ?_)
    rintro v w ⟨rfl, hS⟩
    refine EL.quick 5 [1, 5, 6, 9, 10] [(1, .int .u8 a4), (5, .int .i64 (IntKind.i64.wrap (Int.tmod a3 40))), (6, .slice a2 a1.length a5), (9, .int .i64 a8), (10, .int .i64 a6)] (by kernel_rfl) ?_
    refine EL.done (by kernel_rfl) ?_
    refine EQ.code ?_
    refine EW.seq (x := Cd4.r.r.r.r.r.r.r.r.l) (y := Cd4.r.r.r.r.r.r.r.r.r) (by kernel_rfl) ?_
    refine EW.block (x := Cd4.r.r.r.r.r.r.r.r.l.l) (id := 4) (by kernel_rfl) ?_
    refine EW.seq (x := Cd4.r.r.r.r.r.r.r.r.l.l.l) (y := Cd4.r.r.r.r.r.r.r.r.l.l.r) (by kernel_rfl) ?_
    refine EW.region (id := 15) (ops := Cd4.r.r.r.r.r.r.r.r.l.l.l.ops) (by kernel_rfl) ?_
    refine EL.quick 3 [1, 5, 6, 9, 10, 48] [(1, .int .u8 a4), (5, .int .i64 (IntKind.i64.wrap (Int.tmod a3 40))), (6, .slice a2 a1.length a5), (9, .int .i64 a8), (10, .int .i64 a6), (48, .bool (decide ((IntKind.i64.wrap (Int.tmod a3 40)) > 32)))] (by kernel_rfl) ?_
    refine EL.done (by kernel_rfl) ?_
    refine EQ.code ?_
    refine EW.condP (o := (.tmp 48)) (x := Cd4.r.r.r.r.r.r.r.r.l.l.r.l) (y := Cd4.r.r.r.r.r.r.r.r.l.l.r.r) ((IntKind.i64.wrap (Int.tmod a3 40)) > 32) (by kernel_rfl) (by kernel_rfl) (fun e7 => ?_) (fun e7 => ?_)
    ·rw [if_pos e7] at H
     refine EW.seq (x := Cd4.r.r.r.r.r.r.r.r.l.l.r.l.l) (y := Cd4.r.r.r.r.r.r.r.r.l.l.r.l.r) (by kernel_rfl) ?_
     refine EW.region (id := 16) (ops := Cd4.r.r.r.r.r.r.r.r.l.l.r.l.l.ops) (by kernel_rfl) ?_
     refine EL.quick 3 [9, 53] [(9, .int .i64 a8), (53, .bool (decide (a6 = 24)))] (by kernel_rfl) ?_
     by_cases e0 : a6 = 24
     ·rw [if_pos e0] at H
      refine EL.keep [9, 53] [(9, .int .i64 a8), (53, .bool (decide (a6 = 24)))] (by kernel_rfl) ?_
      refine EL.as' [(9, .int .i64 a8), (53, .bool (true))] (by simp only [dec_t e0, Bool.not_true, Bool.not_false]) ?_
      refine EL.quick 4 [4] [(4, .bool (decide (a8 = 32)))] (by kernel_rfl) ?_
      refine EL.done (by kernel_rfl) ?_
      refine EQ.code ?_
      refine EW.ret (by kernel_rfl) ?_
      refine EQ.ret ?_
      refine EQ.ret ?_
      obtain rfl := Option.some.inj H
      exact EQ.leave (.bool (decide (a8 = 32))) (by kernel_rfl) ⟨_, rfl, rfl, (hS.re [] [0] rfl (sub_tail (sub_tail (sub_self))))⟩
     ·rw [if_neg e0] at H
      refine EL.keep [9, 53] [(9, .int .i64 a8), (53, .bool (decide (a6 = 24)))] (by kernel_rfl) ?_
      refine EL.as' [(9, .int .i64 a8), (53, .bool (false))] (by simp only [dec_f e0, Bool.not_true, Bool.not_false]) ?_
      refine EL.quick 4 [4] [(4, .bool (false))] (by kernel_rfl) ?_
      refine EL.done (by kernel_rfl) ?_
      refine EQ.code ?_
      refine EW.ret (by kernel_rfl) ?_
      refine EQ.ret ?_
      refine EQ.ret ?_
      obtain rfl := Option.some.inj H
      exact EQ.leave (.bool (false)) (by kernel_rfl) ⟨_, rfl, rfl, (hS.re [] [0] rfl (sub_tail (sub_tail (sub_self))))⟩
    ·rw [if_neg e7] at H
     refine EW.seq (x := Cd4.r.r.r.r.r.r.r.r.l.l.r.r.l) (y := Cd4.r.r.r.r.r.r.r.r.l.l.r.r.r) (by kernel_rfl) ?_
     refine EW.region (id := 17) (ops := Cd4.r.r.r.r.r.r.r.r.l.l.r.r.l.ops) (by kernel_rfl) ?_
     refine EL.quick 6 [1, 5, 6, 9, 10, 57] [(1, .int .u8 a4), (5, .int .i64 (IntKind.i64.wrap (Int.tmod a3 40))), (6, .slice a2 a1.length a5), (9, .int .i64 a8), (10, .int .i64 a6), (57, .bool (decide ((IntKind.i64.wrap (Int.tmod a4 44)) > (IntKind.i64.wrap (Int.tmod a3 40)))))] (by kernel_rfl) ?_
     refine EL.done (by kernel_rfl) ?_
     refine EQ.code ?_
     refine EW.condP (o := (.tmp 57)) (x := Cd4.r.r.r.r.r.r.r.r.l.l.r.r.r.l) (y := Cd4.r.r.r.r.r.r.r.r.l.l.r.r.r.r) ((IntKind.i64.wrap (Int.tmod a4 44)) > (IntKind.i64.wrap (Int.tmod a3 40))) (by kernel_rfl) (by kernel_rfl) (fun e8 => ?_) (fun e8 => ?_)
     ·rw [if_pos e8] at H
      refine EW.seq (x := Cd4.r.r.r.r.r.r.r.r.l.l.r.r.r.l.l) (y := Cd4.r.r.r.r.r.r.r.r.l.l.r.r.r.l.r) (by kernel_rfl) ?_
      refine EW.region (id := 18) (ops := Cd4.r.r.r.r.r.r.r.r.l.l.r.r.r.l.l.ops) (by kernel_rfl) ?_
      refine EL.quick 3 [5, 9, 65] [(5, .int .i64 (IntKind.i64.wrap (Int.tmod a3 40))), (9, .int .i64 a8), (65, .bool (decide (a6 = 24)))] (by kernel_rfl) ?_
      by_cases e1 : a6 = 24
      ·rw [if_pos e1] at H
       refine EL.keep [5, 9, 65] [(5, .int .i64 (IntKind.i64.wrap (Int.tmod a3 40))), (9, .int .i64 a8), (65, .bool (decide (a6 = 24)))] (by kernel_rfl) ?_
       refine EL.as' [(5, .int .i64 (IntKind.i64.wrap (Int.tmod a3 40))), (9, .int .i64 a8), (65, .bool (true))] (by simp only [dec_t e1, Bool.not_true, Bool.not_false]) ?_
       refine EL.quick 6 [4] [(4, .bool (decide (a8 = (IntKind.i64.wrap (2 * (IntKind.i64.wrap (Int.tmod a3 40)))))))] (by kernel_rfl) ?_
       refine EL.done (by kernel_rfl) ?_
       refine EQ.code ?_
       refine EW.ret (by kernel_rfl) ?_
       refine EQ.ret ?_
       refine EQ.ret ?_
       obtain rfl := Option.some.inj H
       exact EQ.leave (.bool (decide (a8 = (IntKind.i64.wrap (2 * (IntKind.i64.wrap (Int.tmod a3 40))))))) (by kernel_rfl) ⟨_, rfl, rfl, (hS.re [] [0] rfl (sub_tail (sub_tail (sub_self))))⟩
      ·rw [if_neg e1] at H
       refine EL.keep [5, 9, 65] [(5, .int .i64 (IntKind.i64.wrap (Int.tmod a3 40))), (9, .int .i64 a8), (65, .bool (decide (a6 = 24)))] (by kernel_rfl) ?_
       refine EL.as' [(5, .int .i64 (IntKind.i64.wrap (Int.tmod a3 40))), (9, .int .i64 a8), (65, .bool (false))] (by simp only [dec_f e1, Bool.not_true, Bool.not_false]) ?_
       refine EL.quick 6 [4] [(4, .bool (false))] (by kernel_rfl) ?_
       refine EL.done (by kernel_rfl) ?_
       refine EQ.code ?_
       refine EW.ret (by kernel_rfl) ?_
       refine EQ.ret ?_
       refine EQ.ret ?_
       obtain rfl := Option.some.inj H
       exact EQ.leave (.bool (false)) (by kernel_rfl) ⟨_, rfl, rfl, (hS.re [] [0] rfl (sub_tail (sub_tail (sub_self))))⟩
     ·rw [if_neg e8] at H
      refine EW.skip (by kernel_rfl) ?_
      refine EQ.pop ?_
      refine EQ.code ?_
      refine EW.seq (x := Cd4.r.r.r.r.r.r.r.r.r.l) (y := Cd4.r.r.r.r.r.r.r.r.r.r) (by kernel_rfl) ?_
      refine EW.region (id := 19) (ops := Cd4.r.r.r.r.r.r.r.r.r.l.ops) (by kernel_rfl) ?_
      refine EL.quick 1 [1, 5, 6, 10, 71] [(1, .int .u8 a4), (5, .int .i64 (IntKind.i64.wrap (Int.tmod a3 40))), (6, .slice a2 a1.length a5), (10, .int .i64 a6), (71, .slice a2 a1.length a5)] (by kernel_rfl) ?_
      have hS : St B _ (Ass.own 32 kS32 (some ⟨d9, 0, none⟩) 1 c4 :: os) (Ro.sl kS32 a2 a5 a1 :: Ro.sl kS32 a2 a5 a1 :: Ro.sl kS32 a2 a5 a1 :: rs) := hS.re [] [] rfl (sub_cons 0 rfl sub_self)
      obtain ⟨a0, g2, H⟩ := b1_out H
      refine EL.of (EO.callD 19 [.slice a2 a1.length a5] _ 72 (by kernel_rfl) (by kernel_rfl) (by kernel_rfl) (verify_Depths.calls g2 hS) ?_)
      rintro v w ⟨b5, a9, rfl, hS⟩
      refine EL.quick 1 [1, 5, 6, 10, 11] [(1, .int .u8 a4), (5, .int .i64 (IntKind.i64.wrap (Int.tmod a3 40))), (6, .slice a2 a1.length a5), (10, .int .i64 a6), (11, .slice b5 a0.length a9)] (by kernel_rfl) ?_
      refine EL.done (by kernel_rfl) ?_
      refine EQ.code ?_
      refine EW.seq (x := Cd4.r.r.r.r.r.r.r.r.r.r.l) (y := Cd4.r.r.r.r.r.r.r.r.r.r.r) (by kernel_rfl) ?_
      refine EW.region (id := 20) (ops := Cd4.r.r.r.r.r.r.r.r.r.r.l.ops) (by kernel_rfl) ?_
      refine EL.quick 3 [1, 5, 6, 11, 75] [(1, .int .u8 a4), (5, .int .i64 (IntKind.i64.wrap (Int.tmod a3 40))), (6, .slice a2 a1.length a5), (11, .slice b5 a0.length a9), (75, .bool (decide (a6 = 0)))] (by kernel_rfl) ?_
      by_cases e2 : a6 = 0
      ·rw [if_pos e2] at H
       refine EL.keep [1, 5, 6, 11, 75] [(1, .int .u8 a4), (5, .int .i64 (IntKind.i64.wrap (Int.tmod a3 40))), (6, .slice a2 a1.length a5), (11, .slice b5 a0.length a9), (75, .bool (decide (a6 = 0)))] (by kernel_rfl) ?_
       refine EL.as' [(1, .int .u8 a4), (5, .int .i64 (IntKind.i64.wrap (Int.tmod a3 40))), (6, .slice a2 a1.length a5), (11, .slice b5 a0.length a9), (75, .bool (true))] (by simp only [dec_t e2, Bool.not_true, Bool.not_false]) ?_
       refine EL.quick 7 [1, 5, 11, 82] [(1, .int .u8 a4), (5, .int .i64 (IntKind.i64.wrap (Int.tmod a3 40))), (11, .slice b5 a0.length a9), (82, .bool (decide ((a0.length : Int) = (a1.length : Int))))] (by kernel_rfl) ?_
       by_cases e3 : (a0.length : Int) = (a1.length : Int)
       ·rw [if_pos e3] at H
        refine EL.keep [1, 5, 11, 82] [(1, .int .u8 a4), (5, .int .i64 (IntKind.i64.wrap (Int.tmod a3 40))), (11, .slice b5 a0.length a9), (82, .bool (decide ((a0.length : Int) = (a1.length : Int))))] (by kernel_rfl) ?_
        refine EL.as' [(1, .int .u8 a4), (5, .int .i64 (IntKind.i64.wrap (Int.tmod a3 40))), (11, .slice b5 a0.length a9), (82, .bool (true))] (by simp only [dec_t e3, Bool.not_true, Bool.not_false]) ?_
        refine EL.quick 4 [1, 5, 82, 83, 86] [(1, .int .u8 a4), (5, .int .i64 (IntKind.i64.wrap (Int.tmod a3 40))), (82, .bool (true)), (83, .slice b5 a0.length a9), (86, .int .i64 (IntKind.i64.wrap ((a0.length : Int) - 1)))] (by kernel_rfl) ?_
        obtain ⟨e9, H⟩ := ite_in H
        obtain ⟨f0, H⟩ := ite_in H
        obtain ⟨f1, rfl⟩ := St.rd_some hS (Rd.own 0 3 rfl) e9 f0
        refine EL.of (EO.Y (YO.idx 39 1 f1 a0.length a9 .i64 (IntKind.i64.wrap ((a0.length : Int) - 1)) 87 (by kernel_rfl) (by kernel_rfl) (by kernel_rfl) (by kernel_rfl) e9 f0) ?_)
        refine EL.of (EO.Y (YO.loadEl hS (Kd.int .i64) f1 a9 a0 (Rd.own 0 3 rfl) 0 (encI .i64) encI_of (IntKind.i64.wrap ((a0.length : Int) - 1)) e9 f0 3 1 0 1 rfl (.int .i64 (a0.getD (IntKind.i64.wrap ((a0.length : Int) - 1)).toNat 0)) 88 (by kernel_rfl) (by kernel_rfl) (by kernel_rfl) (by kernel_rfl)) ?_)
        refine EL.quick 8 [4] [(4, .bool (decide ((a0.getD (IntKind.i64.wrap ((a0.length : Int) - 1)).toNat 0) = (IntKind.i64.wrap ((IntKind.i64.wrap (Int.tmod a3 40)) - (IntKind.i64.wrap (Int.tmod a4 44)))))))] (by kernel_rfl) ?_
        refine EL.done (by kernel_rfl) ?_
        refine EQ.code ?_
        refine EW.ret (by kernel_rfl) ?_
        obtain rfl := Option.some.inj H
        exact EQ.leave (.bool (decide ((a0.getD (IntKind.i64.wrap ((a0.length : Int) - 1)).toNat 0) = (IntKind.i64.wrap ((IntKind.i64.wrap (Int.tmod a3 40)) - (IntKind.i64.wrap (Int.tmod a4 44))))))) (by kernel_rfl) ⟨_, rfl, rfl, (hS.re [] [0, 0] rfl (sub_tail (sub_tail (sub_tail (sub_self)))))⟩
       ·rw [if_neg e3] at H
        refine EL.keep [1, 5, 11, 82] [(1, .int .u8 a4), (5, .int .i64 (IntKind.i64.wrap (Int.tmod a3 40))), (11, .slice b5 a0.length a9), (82, .bool (decide ((a0.length : Int) = (a1.length : Int))))] (by kernel_rfl) ?_
        refine EL.as' [(1, .int .u8 a4), (5, .int .i64 (IntKind.i64.wrap (Int.tmod a3 40))), (11, .slice b5 a0.length a9), (82, .bool (false))] (by simp only [dec_f e3, Bool.not_true, Bool.not_false]) ?_
        refine EL.quick 14 [4] [(4, .bool (false))] (by kernel_rfl) ?_
        refine EL.done (by kernel_rfl) ?_
        refine EQ.code ?_
        refine EW.ret (by kernel_rfl) ?_
        obtain rfl := Option.some.inj H
        exact EQ.leave (.bool (false)) (by kernel_rfl) ⟨_, rfl, rfl, (hS.re [] [0, 0] rfl (sub_tail (sub_tail (sub_tail (sub_self)))))⟩
      ·rw [if_neg e2] at H
       refine EL.keep [1, 5, 6, 11, 75] [(1, .int .u8 a4), (5, .int .i64 (IntKind.i64.wrap (Int.tmod a3 40))), (6, .slice a2 a1.length a5), (11, .slice b5 a0.length a9), (75, .bool (decide (a6 = 0)))] (by kernel_rfl) ?_
       refine EL.as' [(1, .int .u8 a4), (5, .int .i64 (IntKind.i64.wrap (Int.tmod a3 40))), (6, .slice a2 a1.length a5), (11, .slice b5 a0.length a9), (75, .bool (false))] (by simp only [dec_f e2, Bool.not_true, Bool.not_false]) ?_
       refine EL.quick 21 [4] [(4, .bool (false))] (by kernel_rfl) ?_
       refine EL.done (by kernel_rfl) ?_
       refine EQ.code ?_
       refine EW.ret (by kernel_rfl) ?_
       obtain rfl := Option.some.inj H
       exact EQ.leave (.bool (false)) (by kernel_rfl) ⟨_, rfl, rfl, (hS.re [] [0, 0] rfl (sub_tail (sub_tail (sub_tail (sub_self)))))⟩
 ·rw [if_neg e4] at H
  refine EW.seq (x := Cd4.r.l.r.l.l) (y := Cd4.r.l.r.l.r) (by kernel_rfl) ?_
  refine EW.region (id := 2) (ops := Cd4.r.l.r.l.l.ops) (by kernel_rfl) ?_
  refine EL.quick 1 [4] [(4, .bool (false))] (by kernel_rfl) ?_
  refine EL.done (by kernel_rfl) ?_
  refine EQ.code ?_
  refine EW.ret (by kernel_rfl) ?_
  refine EQ.ret ?_
  obtain rfl := Option.some.inj H
  exact EQ.leave (.bool (false)) (by kernel_rfl) ⟨_, rfl, rfl, (hS.re [] [] rfl (sub_self))⟩

def confidantlaw8_VerifyStacks.Pure : Prop := ∀ (a3 : Int) (a4 : Int), (Lit.int .u8 a3).wf = true → (Lit.int .u8 a4).wf = true → ∃ K, confidantlaw8_VerifyStacks.f K a3 a4 = some true

end Go.Proofs.Ytlcnkngpankkpaa.G
