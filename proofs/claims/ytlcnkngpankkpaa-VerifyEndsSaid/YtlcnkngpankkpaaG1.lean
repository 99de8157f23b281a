import Derived.Test.YtlcnkngpankkpaaProg
import Derived.Test.YtlcnkngpankkpaaFwEq
import Derived.Test.YtlcnkngpankkpaaFwOpen
import Derived.Test.YtlcnkngpankkpaaG0
namespace Go.Proofs.Ytlcnkngpankkpaa.G
open Go Go.Fw Go.RowKit Go.Proofs
set_option linter.unusedVariables false
set_option linter.unusedSimpArgs false

/-! ### confidant/verify.Func: function 16 -/
def verify_Func.l0 (K : Nat) (l7 : List S32) (a10 : Int) (a11 : Int) (a12 : Int) (a3 : Option (Int × Int)) : Nat → Int → Option (Int × Int)
 | 0, _ => none
 | n + 1, a0 => if a0 < (l7.length : Int) then (if 0 ≤ a0 then (b1 (verify_may.f K ((l7.getD a0.toNat zS32).f0) ((l7.getD a0.toNat zS32).f1) (l7.length : Int) a10 a11 a12) fun (a5 : Bool) => (if a5 = true then (verify_Func.l0 K l7 a10 a11 a12 a3 n (IntKind.i64.wrap (a0 + 1))) else (some (a0, 24)))) else none) else (a3)
def verify_Func.f (K : Nat) (l7 : List S32) (a10 : Int) (a11 : Int) (a12 : Int) : Option (Int × Int) := if (l7.length : Int) > 512 then (some (0, 22)) else (if (l7.length : Int) = 0 then (some (0, 24)) else (lt (b2 (verify_walk.f K l7) fun (b9 : List Int) (a2 : Int) => (if a2 ≥ 0 then (some (a2, 24)) else (some (0, 0)))) fun a3 => (verify_Func.l0 K l7 a10 a11 a12 a3 K 0)))
set_option maxRecDepth 100000 in
theorem verify_Func.calls {K : Nat} {l7 : List S32} {a10 : Int} {a11 : Int} {a12 : Int} {A8 : Option Addr} {C9 : Nat} {a6 : Int} {a7 : Int} {B w : World} {os : List Ass} {rs : List Ro} (H : verify_Func.f K l7 a10 a11 a12 = some (a6, a7)) (hS : St B w (os) (Ro.sl kS32 A8 C9 l7 :: rs)) :
  Calls Try.prog 16 [.slice A8 l7.length C9, .int .i64 a10, .int .i64 a11, .int .i64 a12].toArray w (fun en w' => ∃ v, en = .returned v ∧ v = .tuple #[.int .i64 a6, .int .i64 a7] ∧ St B w' (os) (Ro.sl kS32 A8 C9 l7 :: rs)) := by
 unfold verify_Func.f at H
 refine calls_of_EW (args := [.slice A8 l7.length C9, .int .i64 a10, .int .i64 a11, .int .i64 a12]) (c := Cd16) 47 Try.func16 (by kernel_rfl) (by kernel_rfl) (by kernel_rfl) ?_
 refine EW.seq (x := Cd16.l) (y := Cd16.r) (by kernel_rfl) ?_
 refine EW.region (id := 0) (ops := Cd16.l.ops) (by kernel_rfl) ?_
 refine EL.quick 2 [0, 1, 2, 3] [(0, .slice A8 l7.length C9), (1, .int .i64 a10), (2, .int .i64 a11), (3, .int .i64 a12)] (by kernel_rfl) ?_
 refine EL.done (by kernel_rfl) ?_
 refine EQ.code ?_
 refine EW.seq (x := Cd16.r.l) (y := Cd16.r.r) (by kernel_rfl) ?_
 refine EW.block (x := Cd16.r.l.l) (id := 0) (by kernel_rfl) ?_
 refine EW.seq (x := Cd16.r.l.l.l) (y := Cd16.r.l.l.r) (by kernel_rfl) ?_
 refine EW.region (id := 1) (ops := Cd16.r.l.l.l.ops) (by kernel_rfl) ?_
 refine EL.quick 4 [0, 1, 2, 3, 14] [(0, .slice A8 l7.length C9), (1, .int .i64 a10), (2, .int .i64 a11), (3, .int .i64 a12), (14, .bool (decide ((l7.length : Int) > 512)))] (by kernel_rfl) ?_
 refine EL.done (by kernel_rfl) ?_
 refine EQ.code ?_
 refine EW.condP (o := (.tmp 14)) (x := Cd16.r.l.l.r.l) (y := Cd16.r.l.l.r.r) ((l7.length : Int) > 512) (by kernel_rfl) (by kernel_rfl) (fun a8 => ?_) (fun a8 => ?_)
 ·rw [if_pos a8] at H
  refine EW.seq (x := Cd16.r.l.l.r.l.l) (y := Cd16.r.l.l.r.l.r) (by kernel_rfl) ?_
  refine EW.region (id := 2) (ops := Cd16.r.l.l.r.l.l.ops) (by kernel_rfl) ?_
  refine EL.quick 2 [8, 9] [(8, .int .i64 0), (9, .int .i64 22)] (by kernel_rfl) ?_
  refine EL.done (by kernel_rfl) ?_
  refine EQ.code ?_
  refine EW.ret (by kernel_rfl) ?_
  refine EQ.ret ?_
  refine EQ.ret ?_
  simp only [Option.some.injEq, Prod.mk.injEq] at H
  obtain ⟨rfl, rfl⟩ := H
  exact EQ.leave (.tuple #[.int .i64 0, .int .i64 22]) (by kernel_rfl) ⟨_, rfl, rfl, (hS.re [] [] rfl (sub_self))⟩
 ·rw [if_neg a8] at H
  refine EW.seq (x := Cd16.r.l.l.r.r.l) (y := Cd16.r.l.l.r.r.r) (by kernel_rfl) ?_
  refine EW.region (id := 3) (ops := Cd16.r.l.l.r.r.l.ops) (by kernel_rfl) ?_
  refine EL.quick 4 [0, 1, 2, 3, 18] [(0, .slice A8 l7.length C9), (1, .int .i64 a10), (2, .int .i64 a11), (3, .int .i64 a12), (18, .bool (decide ((l7.length : Int) = 0)))] (by kernel_rfl) ?_
  refine EL.done (by kernel_rfl) ?_
  refine EQ.code ?_
  refine EW.condP (o := (.tmp 18)) (x := Cd16.r.l.l.r.r.r.l) (y := Cd16.r.l.l.r.r.r.r) ((l7.length : Int) = 0) (by kernel_rfl) (by kernel_rfl) (fun a9 => ?_) (fun a9 => ?_)
  ·rw [if_pos a9] at H
   refine EW.seq (x := Cd16.r.l.l.r.r.r.l.l) (y := Cd16.r.l.l.r.r.r.l.r) (by kernel_rfl) ?_
   refine EW.region (id := 4) (ops := Cd16.r.l.l.r.r.r.l.l.ops) (by kernel_rfl) ?_
   refine EL.quick 2 [8, 9] [(8, .int .i64 0), (9, .int .i64 24)] (by kernel_rfl) ?_
   refine EL.done (by kernel_rfl) ?_
   refine EQ.code ?_
   refine EW.ret (by kernel_rfl) ?_
   refine EQ.ret ?_
   refine EQ.ret ?_
   simp only [Option.some.injEq, Prod.mk.injEq] at H
   obtain ⟨rfl, rfl⟩ := H
   exact EQ.leave (.tuple #[.int .i64 0, .int .i64 24]) (by kernel_rfl) ⟨_, rfl, rfl, (hS.re [] [] rfl (sub_self))⟩
  ·rw [if_neg a9] at H
   refine EW.skip (by kernel_rfl) ?_
   refine EQ.pop ?_
   refine EQ.code ?_
   obtain ⟨a3, b8, H⟩ := lt_out H
   refine EW.cut (x := Cd16.r.r.l) (y := Cd16.r.r.r) (fun a w => Sat 47 [(0, .slice A8 l7.length C9)] a ∧ St B w (os) (Ro.sl kS32 A8 C9 l7 :: rs) ∧ a3 = some (a6, a7)) (by kernel_rfl) ?_ (fun a w hI => ?_)
   ·refine EW.seq (x := Cd16.r.r.l.l) (y := Cd16.r.r.l.r) (by kernel_rfl) ?_
    refine EW.region (id := 5) (ops := Cd16.r.r.l.l.ops) (by kernel_rfl) ?_
    refine EL.quick 3 [0, 1, 2, 3, 22, 23, 24] [(0, .slice A8 l7.length C9), (1, .int .i64 a10), (2, .int .i64 a11), (3, .int .i64 a12), (22, .slice A8 l7.length C9), (23, .int .i64 (l7.length : Int)), (24, .int .i64 0)] (by kernel_rfl) ?_
    refine EL.done (by kernel_rfl) ?_
    refine EQ.code ?_
    refine EW.block (x := Cd16.r.r.l.r.l) (id := 1) (by kernel_rfl) ?_
    refine EW.loop (x := Cd16.r.r.l.r.l.l) (fun n a w => ∃ a0 : Int, Sat 47 [(0, .slice A8 l7.length C9), (1, .int .i64 a10), (2, .int .i64 a11), (3, .int .i64 a12), (22, .slice A8 l7.length C9), (23, .int .i64 (l7.length : Int)), (24, .int .i64 a0)] a ∧ St B w (os) (Ro.sl kS32 A8 C9 l7 :: rs) ∧ verify_Func.l0 K l7 a10 a11 a12 a3 n a0 = some (a6, a7)) K (by kernel_rfl) ?_ (fun n a w hI => ?_)
    ·refine EQ.keep [0, 1, 2, 3, 22, 23, 24] [(0, .slice A8 l7.length C9), (1, .int .i64 a10), (2, .int .i64 a11), (3, .int .i64 a12), (22, .slice A8 l7.length C9), (23, .int .i64 (l7.length : Int)), (24, .int .i64 0)] (by kernel_rfl) ?_
     exact fun a ha => ⟨0, ha, (hS.re [] [] rfl (sub_cons 0 rfl (sub_tail (sub_self)))), H⟩
    ·obtain ⟨a0, ha, hS, H⟩ := hI
     obtain _ | n := n
     ·simp [verify_Func.l0] at H
     rw [verify_Func.l0.eq_2] at H
     refine EW.at ?_ a ha
     clear ha a
     refine EW.seq (x := Cd16.r.r.l.r.l.l.l) (y := Cd16.r.r.l.r.l.l.r) (by kernel_rfl) ?_
     refine EW.region (id := 6) (ops := Cd16.r.r.l.r.l.l.l.ops) (by kernel_rfl) ?_
     refine EL.quick 1 [0, 1, 2, 3, 22, 23, 24, 25] [(0, .slice A8 l7.length C9), (1, .int .i64 a10), (2, .int .i64 a11), (3, .int .i64 a12), (22, .slice A8 l7.length C9), (23, .int .i64 (l7.length : Int)), (24, .int .i64 a0), (25, .bool (decide (a0 < (l7.length : Int))))] (by kernel_rfl) ?_
     refine EL.done (by kernel_rfl) ?_
     refine EQ.code ?_
     refine EW.seq (x := Cd16.r.r.l.r.l.l.r.l) (y := Cd16.r.r.l.r.l.l.r.r) (by kernel_rfl) ?_
     refine EW.condP (o := (.tmp 25)) (x := Cd16.r.r.l.r.l.l.r.l.l) (y := Cd16.r.r.l.r.l.l.r.l.r) (a0 < (l7.length : Int)) (by kernel_rfl) (by kernel_rfl) (fun a4 => ?_) (fun a4 => ?_)
     ·rw [if_pos a4] at H
      refine EW.skip (by kernel_rfl) ?_
      refine EQ.code ?_
      refine EW.seq (x := Cd16.r.r.l.r.l.l.r.r.l) (y := Cd16.r.r.l.r.l.l.r.r.r) (by kernel_rfl) ?_
      refine EW.block (x := Cd16.r.r.l.r.l.l.r.r.l.l) (id := 2) (by kernel_rfl) ?_
      refine EW.seq (x := Cd16.r.r.l.r.l.l.r.r.l.l.l) (y := Cd16.r.r.l.r.l.l.r.r.l.l.r) (by kernel_rfl) ?_
      refine EW.region (id := 7) (ops := Cd16.r.r.l.r.l.l.r.r.l.l.l.ops) (by kernel_rfl) ?_
      refine EL.quick 1 [0, 1, 2, 3, 22, 23, 24, 26] [(0, .slice A8 l7.length C9), (1, .int .i64 a10), (2, .int .i64 a11), (3, .int .i64 a12), (22, .slice A8 l7.length C9), (23, .int .i64 (l7.length : Int)), (24, .int .i64 a0), (26, .int .i64 a0)] (by kernel_rfl) ?_
      obtain ⟨b0, H⟩ := ite_in H
      obtain ⟨a1, rfl⟩ := St.rd_some hS (Rd.ro 0 rfl) b0 a4
      refine EL.of (EO.Y (YO.idx 29 2 a1 l7.length C9 .i64 a0 27 (by kernel_rfl) (by kernel_rfl) (by kernel_rfl) (by kernel_rfl) b0 a4) ?_)
      refine EL.of (EO.Y (YO.loadEl hS kS32 a1 C9 l7 (Rd.ro 0 rfl) zS32 encS32 encS32_of a0 b0 a4 32 2 0 2 rfl (.agg #[.int .i64 ((l7.getD a0.toNat zS32).f0), .int .i32 ((l7.getD a0.toNat zS32).f1)]) 28 (by kernel_rfl) (by kernel_rfl) (by kernel_rfl) (by kernel_rfl)) ?_)
      refine EL.of (EO.alloc hS 32 (.agg #[.int .i64 0, .int .i32 0]) [.int .i64 0, .int .i32 0] 11 (by kernel_rfl) (by kernel_rfl) (by kernel_rfl) (by kernel_rfl) (by first | rfl | kernel_rfl) ?_)
      intro b5 w hS
      refine EL.quick 1 [0, 1, 2, 3, 10, 11, 22, 23, 24, 28] [(0, .slice (some a1) l7.length C9), (1, .int .i64 a10), (2, .int .i64 a11), (3, .int .i64 a12), (10, .int .i64 a0), (11, .pointer (some ⟨b5, 0, none⟩)), (22, .slice (some a1) l7.length C9), (23, .int .i64 (l7.length : Int)), (24, .int .i64 a0), (28, .agg #[.int .i64 ((l7.getD a0.toNat zS32).f0), .int .i32 ((l7.getD a0.toNat zS32).f1)])] (by kernel_rfl) ?_
      refine EL.of (EO.storeBox (os' := Ass.box 32 b5 [.int .i64 ((l7.getD a0.toNat zS32).f0), .int .i32 ((l7.getD a0.toNat zS32).f1)] :: os) hS 0 rfl 32 0 (.agg #[.int .i64 ((l7.getD a0.toNat zS32).f0), .int .i32 ((l7.getD a0.toNat zS32).f1)]) [.int .i64 ((l7.getD a0.toNat zS32).f0), .int .i32 ((l7.getD a0.toNat zS32).f1)] (by kernel_rfl) (by kernel_rfl) (by kernel_rfl) (by kernel_rfl) (by kernel_rfl) (by kernel_rfl) rfl rfl ?_)
      intro w hS
      refine EL.done (by kernel_rfl) ?_
      refine EQ.code ?_
      refine EW.seq (x := Cd16.r.r.l.r.l.l.r.r.l.l.r.l) (y := Cd16.r.r.l.r.l.l.r.r.l.l.r.r) (by kernel_rfl) ?_
      refine EW.region (id := 8) (ops := Cd16.r.r.l.r.l.l.r.r.l.l.r.l.ops) (by kernel_rfl) ?_
      refine EL.of (EO.Y (YO.loadBox hS 0 rfl 32 0 2 (.agg #[.int .i64 ((l7.getD a0.toNat zS32).f0), .int .i32 ((l7.getD a0.toNat zS32).f1)]) 29 (by kernel_rfl) (by kernel_rfl) (by kernel_rfl) (by kernel_rfl)) ?_)
      refine EL.quick 5 [0, 1, 2, 3, 10, 22, 23, 24, 29, 31, 32, 33, 34] [(0, .slice (some a1) l7.length C9), (1, .int .i64 a10), (2, .int .i64 a11), (3, .int .i64 a12), (10, .int .i64 a0), (22, .slice (some a1) l7.length C9), (23, .int .i64 (l7.length : Int)), (24, .int .i64 a0), (29, .agg #[.int .i64 ((l7.getD a0.toNat zS32).f0), .int .i32 ((l7.getD a0.toNat zS32).f1)]), (31, .int .i64 (l7.length : Int)), (32, .int .i64 a10), (33, .int .i64 a11), (34, .int .i64 a12)] (by kernel_rfl) ?_
      obtain ⟨a5, b6, H⟩ := b1_out H
      refine EL.of (EO.callD 42 [.agg #[.int .i64 ((l7.getD a0.toNat zS32).f0), .int .i32 ((l7.getD a0.toNat zS32).f1)], .int .i64 (l7.length : Int), .int .i64 a10, .int .i64 a11, .int .i64 a12] _ 35 (by kernel_rfl) (by kernel_rfl) (by kernel_rfl) (verify_may.calls b6 hS) ?_)
      rintro v w ⟨rfl, hS⟩
      refine EL.quick 1 [0, 1, 2, 3, 10, 22, 23, 24, 36] [(0, .slice (some a1) l7.length C9), (1, .int .i64 a10), (2, .int .i64 a11), (3, .int .i64 a12), (10, .int .i64 a0), (22, .slice (some a1) l7.length C9), (23, .int .i64 (l7.length : Int)), (24, .int .i64 a0), (36, .bool (!(a5)))] (by kernel_rfl) ?_
      refine EL.done (by kernel_rfl) ?_
      refine EQ.code ?_
      refine EW.condQ (b := !(a5)) (o := (.tmp 36)) (x := Cd16.r.r.l.r.l.l.r.r.l.l.r.r.l) (y := Cd16.r.r.l.r.l.l.r.r.l.l.r.r.r) (a5 = true) (false) (by kernel_rfl) (by kernel_rfl) ⟨fun h => (by rw [h] <;> rfl), fun h => (by rw [Bool.eq_false_iff.2 h] <;> rfl)⟩ (fun b3 => ?_) (fun b3 => ?_)
      ·rw [if_pos b3] at H
       refine EW.skip (by kernel_rfl) ?_
       refine EQ.pop ?_
       refine EQ.code ?_
       refine EW.region (id := 10) (ops := Cd16.r.r.l.r.l.l.r.r.r.ops) (by kernel_rfl) ?_
       refine EL.quick 2 [0, 1, 2, 3, 22, 23, 24] [(0, .slice (some a1) l7.length C9), (1, .int .i64 a10), (2, .int .i64 a11), (3, .int .i64 a12), (22, .slice (some a1) l7.length C9), (23, .int .i64 (l7.length : Int)), (24, .int .i64 (IntKind.i64.wrap (a0 + 1)))] (by kernel_rfl) ?_
       refine EL.done (by kernel_rfl) ?_
       refine EQ.to ?_
       refine EQ.keep [0, 1, 2, 3, 22, 23, 24] [(0, .slice (some a1) l7.length C9), (1, .int .i64 a10), (2, .int .i64 a11), (3, .int .i64 a12), (22, .slice (some a1) l7.length C9), (23, .int .i64 (l7.length : Int)), (24, .int .i64 (IntKind.i64.wrap (a0 + 1)))] (by kernel_rfl) ?_
       exact fun a ha => ⟨n, Nat.lt_succ_self n, IntKind.i64.wrap (a0 + 1), ha, (hS.re [] [0] rfl (sub_cons 0 rfl (sub_tail (sub_self)))), H⟩
      ·rw [if_neg b3] at H
       refine EW.seq (x := Cd16.r.r.l.r.l.l.r.r.l.l.r.r.l.l) (y := Cd16.r.r.l.r.l.l.r.r.l.l.r.r.l.r) (by kernel_rfl) ?_
       refine EW.region (id := 9) (ops := Cd16.r.r.l.r.l.l.r.r.l.l.r.r.l.l.ops) (by kernel_rfl) ?_
       refine EL.quick 3 [8, 9] [(8, .int .i64 a0), (9, .int .i64 24)] (by kernel_rfl) ?_
       refine EL.done (by kernel_rfl) ?_
       refine EQ.code ?_
       refine EW.ret (by kernel_rfl) ?_
       refine EQ.ret ?_
       refine EQ.ret ?_
       refine EQ.ret ?_
       refine EQ.ret ?_
       refine EQ.ret ?_
       simp only [Option.some.injEq, Prod.mk.injEq] at H
       obtain ⟨rfl, rfl⟩ := H
       exact EQ.leave (.tuple #[.int .i64 a0, .int .i64 24]) (by kernel_rfl) ⟨_, rfl, rfl, (hS.re [] [0] rfl (sub_self))⟩
     ·rw [if_neg a4] at H
      refine EW.exit (id := 1) (by kernel_rfl) ?_
      refine EQ.exitCode ?_
      refine EQ.exitTo ?_
      refine EQ.exitHere ?_
      refine EQ.to ?_
      refine EQ.keep [0] [(0, .slice A8 l7.length C9)] (by kernel_rfl) ?_
      exact fun a ha => ⟨ha, (hS.re [] [] rfl (sub_cons 0 rfl (sub_tail (sub_self)))), H⟩
   ·obtain ⟨ha, hS, H⟩ := hI
    rw [b8] at H
    (try dsimp only at H)
    refine EW.at ?_ a ha
    clear ha a
    refine EW.seq (x := Cd16.r.r.r.l) (y := Cd16.r.r.r.r) (by kernel_rfl) ?_
    refine EW.seq (x := Cd16.r.r.r.l.l) (y := Cd16.r.r.r.l.r) (by kernel_rfl) ?_
    refine EW.region (id := 11) (ops := Cd16.r.r.r.l.l.ops) (by kernel_rfl) ?_
    refine EL.quick 1 [40] [(40, .slice A8 l7.length C9)] (by kernel_rfl) ?_
    have hS : St B _ (os) (Ro.sl kS32 A8 C9 l7 :: Ro.sl kS32 A8 C9 l7 :: rs) := hS.re [] [] rfl (sub_cons 0 rfl sub_self)
    obtain ⟨b9, a2, b7, H⟩ := b2_out H
    refine EL.of (EO.callD 43 [.slice A8 l7.length C9] _ 41 (by kernel_rfl) (by kernel_rfl) (by kernel_rfl) (verify_walk.calls b7 hS) ?_)
    rintro v w ⟨c0, c1, rfl, hS⟩
    refine EL.quick 5 [13] [(13, .int .i64 a2)] (by kernel_rfl) ?_
    refine EL.done (by kernel_rfl) ?_
    refine EQ.code ?_
    refine EW.seq (x := Cd16.r.r.r.l.r.l) (y := Cd16.r.r.r.l.r.r) (by kernel_rfl) ?_
    refine EW.region (id := 12) (ops := Cd16.r.r.r.l.r.l.ops) (by kernel_rfl) ?_
    refine EL.quick 2 [13, 45] [(13, .int .i64 a2), (45, .bool (decide (a2 ≥ 0)))] (by kernel_rfl) ?_
    refine EL.done (by kernel_rfl) ?_
    refine EQ.code ?_
    refine EW.condP (o := (.tmp 45)) (x := Cd16.r.r.r.l.r.r.l) (y := Cd16.r.r.r.l.r.r.r) (a2 ≥ 0) (by kernel_rfl) (by kernel_rfl) (fun b4 => ?_) (fun b4 => ?_)
    ·rw [if_pos b4] at H
     refine EW.seq (x := Cd16.r.r.r.l.r.r.l.l) (y := Cd16.r.r.r.l.r.r.l.r) (by kernel_rfl) ?_
     refine EW.region (id := 13) (ops := Cd16.r.r.r.l.r.r.l.l.ops) (by kernel_rfl) ?_
     refine EL.quick 3 [8, 9] [(8, .int .i64 a2), (9, .int .i64 24)] (by kernel_rfl) ?_
     refine EL.done (by kernel_rfl) ?_
     refine EQ.code ?_
     refine EW.ret (by kernel_rfl) ?_
     refine EQ.ret ?_
     simp only [Option.some.injEq, Prod.mk.injEq] at H
     obtain ⟨rfl, rfl⟩ := H
     exact EQ.leave (.tuple #[.int .i64 a2, .int .i64 24]) (by kernel_rfl) ⟨_, rfl, rfl, (hS.re [] [0] rfl (sub_tail (sub_self)))⟩
    ·rw [if_neg b4] at H
     refine EW.skip (by kernel_rfl) ?_
     refine EQ.code ?_
     refine EW.seq (x := Cd16.r.r.r.r.l) (y := Cd16.r.r.r.r.r) (by kernel_rfl) ?_
     refine EW.region (id := 14) (ops := Cd16.r.r.r.r.l.ops) (by kernel_rfl) ?_
     refine EL.quick 2 [8, 9] [(8, .int .i64 0), (9, .int .i64 0)] (by kernel_rfl) ?_
     refine EL.done (by kernel_rfl) ?_
     refine EQ.code ?_
     refine EW.ret (by kernel_rfl) ?_
     simp only [Option.some.injEq, Prod.mk.injEq] at H
     obtain ⟨rfl, rfl⟩ := H
     exact EQ.leave (.tuple #[.int .i64 0, .int .i64 0]) (by kernel_rfl) ⟨_, rfl, rfl, (hS.re [] [0] rfl (sub_tail (sub_self)))⟩

/-! ### confidant/verify.Depths: function 19 -/
def verify_Depths.f (K : Nat) (a0 : List S32) : Option (List Int) := b2 (verify_Func.f K a0 2147483648 2147483648 2147483648) fun (b4 : Int) (a3 : Int) => (if a3 = 0 then (b2 (verify_walk.f K a0) fun (a4 : List Int) (b5 : Int) => (some a4)) else (some ([] : List Int)))
set_option maxRecDepth 100000 in
theorem verify_Depths.calls {K : Nat} {a0 : List S32} {a1 : Option Addr} {a2 : Nat} {a8 : List Int} {B w : World} {os : List Ass} {rs : List Ro} (H : verify_Depths.f K a0 = some a8) (hS : St B w (os) (Ro.sl kS32 a1 a2 a0 :: rs)) :
  Calls Try.prog 19 [.slice a1 a0.length a2].toArray w (fun en w' => ∃ v, en = .returned v ∧ ∃ a9 : Option Addr, ∃ b0 : Nat, v = .slice a9 a8.length b0 ∧ St B w' (Ass.own 3 (Kd.int .i64) a9 b0 a8 :: os) (Ro.sl kS32 a1 a2 a0 :: rs)) := by
 unfold verify_Depths.f at H
 refine calls_of_EW (args := [.slice a1 a0.length a2]) (c := Cd19) 20 Try.func19 (by kernel_rfl) (by kernel_rfl) (by kernel_rfl) ?_
 refine EW.seq (x := Cd19.l) (y := Cd19.r) (by kernel_rfl) ?_
 refine EW.region (id := 0) (ops := Cd19.l.ops) (by kernel_rfl) ?_
 refine EL.quick 1 [0] [(0, .slice a1 a0.length a2)] (by kernel_rfl) ?_
 refine EL.done (by kernel_rfl) ?_
 refine EQ.code ?_
 refine EW.seq (x := Cd19.r.l) (y := Cd19.r.r) (by kernel_rfl) ?_
 refine EW.seq (x := Cd19.r.l.l) (y := Cd19.r.l.r) (by kernel_rfl) ?_
 refine EW.region (id := 1) (ops := Cd19.r.l.l.ops) (by kernel_rfl) ?_
 refine EL.quick 1 [0, 8] [(0, .slice a1 a0.length a2), (8, .slice a1 a0.length a2)] (by kernel_rfl) ?_
 have hS : St B _ (os) (Ro.sl kS32 a1 a2 a0 :: Ro.sl kS32 a1 a2 a0 :: rs) := hS.re [] [] rfl (sub_cons 0 rfl sub_self)
 obtain ⟨b4, a3, b1, H⟩ := b2_out H
 refine EL.of (EO.callD 16 [.slice a1 a0.length a2, .int .i64 2147483648, .int .i64 2147483648, .int .i64 2147483648] _ 9 (by kernel_rfl) (by kernel_rfl) (by kernel_rfl) (verify_Func.calls b1 hS) ?_)
 rintro v w ⟨rfl, hS⟩
 refine EL.quick 5 [0, 4] [(0, .slice a1 a0.length a2), (4, .int .i64 a3)] (by kernel_rfl) ?_
 refine EL.done (by kernel_rfl) ?_
 refine EQ.code ?_
 refine EW.seq (x := Cd19.r.l.r.l) (y := Cd19.r.l.r.r) (by kernel_rfl) ?_
 refine EW.region (id := 2) (ops := Cd19.r.l.r.l.ops) (by kernel_rfl) ?_
 refine EL.quick 2 [0, 13] [(0, .slice a1 a0.length a2), (13, .bool (!(decide (a3 = 0))))] (by kernel_rfl) ?_
 refine EL.done (by kernel_rfl) ?_
 refine EQ.code ?_
 refine EW.condQ (b := !(decide (a3 = 0))) (o := (.tmp 13)) (x := Cd19.r.l.r.r.l) (y := Cd19.r.l.r.r.r) (a3 = 0) (false) (by kernel_rfl) (by kernel_rfl) ⟨fun h => (by rw [decide_eq_true h] <;> rfl), fun h => (by rw [decide_eq_false h] <;> rfl)⟩ (fun a7 => ?_) (fun a7 => ?_)
 ·rw [if_pos a7] at H
  refine EW.skip (by kernel_rfl) ?_
  refine EQ.code ?_
  refine EW.seq (x := Cd19.r.r.l) (y := Cd19.r.r.r) (by kernel_rfl) ?_
  refine EW.region (id := 4) (ops := Cd19.r.r.l.ops) (by kernel_rfl) ?_
  refine EL.quick 1 [15] [(15, .slice a1 a0.length a2)] (by kernel_rfl) ?_
  have hS : St B _ (os) (Ro.sl kS32 a1 a2 a0 :: Ro.sl kS32 a1 a2 a0 :: Ro.sl kS32 a1 a2 a0 :: rs) := hS.re [] [] rfl (sub_cons 0 rfl sub_self)
  obtain ⟨a4, b5, b3, H⟩ := b2_out H
  refine EL.of (EO.callD 43 [.slice a1 a0.length a2] _ 16 (by kernel_rfl) (by kernel_rfl) (by kernel_rfl) (verify_walk.calls b3 hS) ?_)
  rintro v w ⟨a5, a6, rfl, hS⟩
  refine EL.quick 5 [5] [(5, .slice a5 a4.length a6)] (by kernel_rfl) ?_
  refine EL.done (by kernel_rfl) ?_
  refine EQ.code ?_
  refine EW.seq (x := Cd19.r.r.r.l) (y := Cd19.r.r.r.r) (by kernel_rfl) ?_
  refine EW.region (id := 5) (ops := Cd19.r.r.r.l.ops) (by kernel_rfl) ?_
  refine EL.quick 2 [2] [(2, .slice a5 a4.length a6)] (by kernel_rfl) ?_
  refine EL.done (by kernel_rfl) ?_
  refine EQ.code ?_
  refine EW.ret (by kernel_rfl) ?_
  obtain rfl := Option.some.inj H
  exact EQ.leave (.slice a5 a4.length a6) (by kernel_rfl) ⟨_, rfl, a5, a6, rfl, (hS.re [0] [] rfl (sub_tail (sub_tail (sub_self))))⟩
 ·rw [if_neg a7] at H
  refine EW.seq (x := Cd19.r.l.r.r.l.l) (y := Cd19.r.l.r.r.l.r) (by kernel_rfl) ?_
  refine EW.region (id := 3) (ops := Cd19.r.l.r.r.l.l.ops) (by kernel_rfl) ?_
  refine EL.quick 1 [2] [(2, .slice none ([] : List Int).length 0)] (by kernel_rfl) ?_
  refine EL.done (by kernel_rfl) ?_
  refine EQ.code ?_
  refine EW.ret (by kernel_rfl) ?_
  refine EQ.ret ?_
  have hS := St.nilO hS 3 (Kd.int .i64)
  obtain rfl := Option.some.inj H
  exact EQ.leave (.slice none ([] : List Int).length 0) (by kernel_rfl) ⟨_, rfl, none, 0, rfl, (hS.re [0] [] rfl (sub_tail (sub_self)))⟩

/-! ### confidant/verify.Image: function 21 -/
def verify_Image.l0 (K : Nat) (a0 : List (List S32)) (a3 : Int) (a4 : Int) : Nat → Int → Option (Int × Int × Int)
 | 0, _ => none
 | n + 1, a1 => if a1 < (a0.length : Int) then (if 0 ≤ a1 then (b2 (verify_Func.f K (a0.getD a1.toNat []) (a0.length : Int) a3 a4) fun (a9 : Int) (a7 : Int) => (if a7 = 0 then (verify_Image.l0 K a0 a3 a4 n (IntKind.i64.wrap (a1 + 1))) else (some (a1, a9, a7)))) else none) else (some (0, 0, 0))
def verify_Image.f (K : Nat) (a0 : List (List S32)) (a3 : Int) (a4 : Int) : Option (Int × Int × Int) := if (a0.length : Int) > 64 then (some (0, 0, 22)) else (if (a0.length : Int) = 0 then (some (0, 0, 24)) else (verify_Image.l0 K a0 a3 a4 K 0))
set_option maxRecDepth 100000 in
theorem verify_Image.calls {K : Nat} {a0 : List (List S32)} {a3 : Int} {a4 : Int} {a5 : Option Addr} {a2 : Nat} {b7 : Int} {b8 : Int} {b9 : Int} {B w : World} {os : List Ass} {rs : List Ro} (H : verify_Image.f K a0 a3 a4 = some (b7, b8, b9)) (hS : St B w (os) (Ro.sl (Kd.slice kS32) a5 a2 a0 :: rs)) :
  Calls Try.prog 21 [.slice a5 a0.length a2, .int .i64 a3, .int .i64 a4].toArray w (fun en w' => ∃ v, en = .returned v ∧ v = .tuple #[.int .i64 b7, .int .i64 b8, .int .i64 b9] ∧ St B w' (os) (Ro.sl (Kd.slice kS32) a5 a2 a0 :: rs)) := by
 unfold verify_Image.f at H
 refine calls_of_EW (args := [.slice a5 a0.length a2, .int .i64 a3, .int .i64 a4]) (c := Cd21) 43 Try.func21 (by kernel_rfl) (by kernel_rfl) (by kernel_rfl) ?_
 refine EW.seq (x := Cd21.l) (y := Cd21.r) (by kernel_rfl) ?_
 refine EW.region (id := 0) (ops := Cd21.l.ops) (by kernel_rfl) ?_
 refine EL.quick 3 [0, 1, 2] [(0, .slice a5 a0.length a2), (1, .int .i64 a3), (2, .int .i64 a4)] (by kernel_rfl) ?_
 refine EL.done (by kernel_rfl) ?_
 refine EQ.code ?_
 refine EW.seq (x := Cd21.r.l) (y := Cd21.r.r) (by kernel_rfl) ?_
 refine EW.block (x := Cd21.r.l.l) (id := 0) (by kernel_rfl) ?_
 refine EW.seq (x := Cd21.r.l.l.l) (y := Cd21.r.l.l.r) (by kernel_rfl) ?_
 refine EW.region (id := 1) (ops := Cd21.r.l.l.l.ops) (by kernel_rfl) ?_
 refine EL.quick 4 [0, 1, 2, 13] [(0, .slice a5 a0.length a2), (1, .int .i64 a3), (2, .int .i64 a4), (13, .bool (decide ((a0.length : Int) > 64)))] (by kernel_rfl) ?_
 refine EL.done (by kernel_rfl) ?_
 refine EQ.code ?_
 refine EW.condP (o := (.tmp 13)) (x := Cd21.r.l.l.r.l) (y := Cd21.r.l.l.r.r) ((a0.length : Int) > 64) (by kernel_rfl) (by kernel_rfl) (fun b3 => ?_) (fun b3 => ?_)
 ·rw [if_pos b3] at H
  refine EW.seq (x := Cd21.r.l.l.r.l.l) (y := Cd21.r.l.l.r.l.r) (by kernel_rfl) ?_
  refine EW.region (id := 2) (ops := Cd21.r.l.l.r.l.l.ops) (by kernel_rfl) ?_
  refine EL.quick 3 [6, 7, 8] [(6, .int .i64 0), (7, .int .i64 0), (8, .int .i64 22)] (by kernel_rfl) ?_
  refine EL.done (by kernel_rfl) ?_
  refine EQ.code ?_
  refine EW.ret (by kernel_rfl) ?_
  refine EQ.ret ?_
  refine EQ.ret ?_
  simp only [Option.some.injEq, Prod.mk.injEq] at H
  obtain ⟨rfl, rfl, rfl⟩ := H
  exact EQ.leave (.tuple #[.int .i64 0, .int .i64 0, .int .i64 22]) (by kernel_rfl) ⟨_, rfl, rfl, (hS.re [] [] rfl (sub_self))⟩
 ·rw [if_neg b3] at H
  refine EW.seq (x := Cd21.r.l.l.r.r.l) (y := Cd21.r.l.l.r.r.r) (by kernel_rfl) ?_
  refine EW.region (id := 3) (ops := Cd21.r.l.l.r.r.l.ops) (by kernel_rfl) ?_
  refine EL.quick 4 [0, 1, 2, 17] [(0, .slice a5 a0.length a2), (1, .int .i64 a3), (2, .int .i64 a4), (17, .bool (decide ((a0.length : Int) = 0)))] (by kernel_rfl) ?_
  refine EL.done (by kernel_rfl) ?_
  refine EQ.code ?_
  refine EW.condP (o := (.tmp 17)) (x := Cd21.r.l.l.r.r.r.l) (y := Cd21.r.l.l.r.r.r.r) ((a0.length : Int) = 0) (by kernel_rfl) (by kernel_rfl) (fun b4 => ?_) (fun b4 => ?_)
  ·rw [if_pos b4] at H
   refine EW.seq (x := Cd21.r.l.l.r.r.r.l.l) (y := Cd21.r.l.l.r.r.r.l.r) (by kernel_rfl) ?_
   refine EW.region (id := 4) (ops := Cd21.r.l.l.r.r.r.l.l.ops) (by kernel_rfl) ?_
   refine EL.quick 3 [6, 7, 8] [(6, .int .i64 0), (7, .int .i64 0), (8, .int .i64 24)] (by kernel_rfl) ?_
   refine EL.done (by kernel_rfl) ?_
   refine EQ.code ?_
   refine EW.ret (by kernel_rfl) ?_
   refine EQ.ret ?_
   refine EQ.ret ?_
   simp only [Option.some.injEq, Prod.mk.injEq] at H
   obtain ⟨rfl, rfl, rfl⟩ := H
   exact EQ.leave (.tuple #[.int .i64 0, .int .i64 0, .int .i64 24]) (by kernel_rfl) ⟨_, rfl, rfl, (hS.re [] [] rfl (sub_self))⟩
  ·rw [if_neg b4] at H
   refine EW.skip (by kernel_rfl) ?_
   refine EQ.pop ?_
   refine EQ.code ?_
   refine EW.seq (x := Cd21.r.r.l) (y := Cd21.r.r.r) (by kernel_rfl) ?_
   refine EW.seq (x := Cd21.r.r.l.l) (y := Cd21.r.r.l.r) (by kernel_rfl) ?_
   refine EW.region (id := 5) (ops := Cd21.r.r.l.l.ops) (by kernel_rfl) ?_
   refine EL.quick 3 [0, 1, 2, 21, 22, 23] [(0, .slice a5 a0.length a2), (1, .int .i64 a3), (2, .int .i64 a4), (21, .slice a5 a0.length a2), (22, .int .i64 (a0.length : Int)), (23, .int .i64 0)] (by kernel_rfl) ?_
   refine EL.done (by kernel_rfl) ?_
   refine EQ.code ?_
   refine EW.block (x := Cd21.r.r.l.r.l) (id := 1) (by kernel_rfl) ?_
   refine EW.loop (x := Cd21.r.r.l.r.l.l) (fun n a w => ∃ a1 : Int, Sat 43 [(0, .slice a5 a0.length a2), (1, .int .i64 a3), (2, .int .i64 a4), (21, .slice a5 a0.length a2), (22, .int .i64 (a0.length : Int)), (23, .int .i64 a1)] a ∧ St B w (os) (Ro.sl (Kd.slice kS32) a5 a2 a0 :: rs) ∧ verify_Image.l0 K a0 a3 a4 n a1 = some (b7, b8, b9)) K (by kernel_rfl) ?_ (fun n a w hI => ?_)
   ·refine EQ.keep [0, 1, 2, 21, 22, 23] [(0, .slice a5 a0.length a2), (1, .int .i64 a3), (2, .int .i64 a4), (21, .slice a5 a0.length a2), (22, .int .i64 (a0.length : Int)), (23, .int .i64 0)] (by kernel_rfl) ?_
    exact fun a ha => ⟨0, ha, (hS.re [] [] rfl (sub_cons 0 rfl (sub_tail (sub_self)))), H⟩
   ·obtain ⟨a1, ha, hS, H⟩ := hI
    obtain _ | n := n
    ·simp [verify_Image.l0] at H
    rw [verify_Image.l0.eq_2] at H
    refine EW.at ?_ a ha
    clear ha a
    refine EW.seq (x := Cd21.r.r.l.r.l.l.l) (y := Cd21.r.r.l.r.l.l.r) (by kernel_rfl) ?_
    refine EW.region (id := 6) (ops := Cd21.r.r.l.r.l.l.l.ops) (by kernel_rfl) ?_
    refine EL.quick 1 [0, 1, 2, 21, 22, 23, 24] [(0, .slice a5 a0.length a2), (1, .int .i64 a3), (2, .int .i64 a4), (21, .slice a5 a0.length a2), (22, .int .i64 (a0.length : Int)), (23, .int .i64 a1), (24, .bool (decide (a1 < (a0.length : Int))))] (by kernel_rfl) ?_
    refine EL.done (by kernel_rfl) ?_
    refine EQ.code ?_
    refine EW.seq (x := Cd21.r.r.l.r.l.l.r.l) (y := Cd21.r.r.l.r.l.l.r.r) (by kernel_rfl) ?_
    refine EW.condP (o := (.tmp 24)) (x := Cd21.r.r.l.r.l.l.r.l.l) (y := Cd21.r.r.l.r.l.l.r.l.r) (a1 < (a0.length : Int)) (by kernel_rfl) (by kernel_rfl) (fun a8 => ?_) (fun a8 => ?_)
    ·rw [if_pos a8] at H
     refine EW.skip (by kernel_rfl) ?_
     refine EQ.code ?_
     refine EW.seq (x := Cd21.r.r.l.r.l.l.r.r.l) (y := Cd21.r.r.l.r.l.l.r.r.r) (by kernel_rfl) ?_
     refine EW.block (x := Cd21.r.r.l.r.l.l.r.r.l.l) (id := 2) (by kernel_rfl) ?_
     refine EW.seq (x := Cd21.r.r.l.r.l.l.r.r.l.l.l) (y := Cd21.r.r.l.r.l.l.r.r.l.l.r) (by kernel_rfl) ?_
     refine EW.region (id := 7) (ops := Cd21.r.r.l.r.l.l.r.r.l.l.l.ops) (by kernel_rfl) ?_
     refine EL.quick 1 [0, 1, 2, 21, 22, 23, 25] [(0, .slice a5 a0.length a2), (1, .int .i64 a3), (2, .int .i64 a4), (21, .slice a5 a0.length a2), (22, .int .i64 (a0.length : Int)), (23, .int .i64 a1), (25, .int .i64 a1)] (by kernel_rfl) ?_
     obtain ⟨b5, H⟩ := ite_in H
     obtain ⟨a6, rfl⟩ := St.rd_some hS (Rd.ro 0 rfl) b5 a8
     refine EL.of (EO.Y (YO.idx 23 1 a6 a0.length a2 .i64 a1 26 (by kernel_rfl) (by kernel_rfl) (by kernel_rfl) (by kernel_rfl) b5 a8) ?_)
     refine EL.of (EO.loadSl hS kS32 a6 a2 a0 (Rd.ro 0 rfl) a1 b5 a8 29 27 (by kernel_rfl) (by kernel_rfl) (by kernel_rfl) (by kernel_rfl) ?_)
     intro b0 b1 hS
     refine EL.quick 2 [0, 1, 2, 9, 10, 21, 22, 23] [(0, .slice (some a6) a0.length a2), (1, .int .i64 a3), (2, .int .i64 a4), (9, .int .i64 a1), (10, .slice b0 (a0.getD a1.toNat []).length b1), (21, .slice (some a6) a0.length a2), (22, .int .i64 (a0.length : Int)), (23, .int .i64 a1)] (by kernel_rfl) ?_
     refine EL.done (by kernel_rfl) ?_
     refine EQ.code ?_
     refine EW.seq (x := Cd21.r.r.l.r.l.l.r.r.l.l.r.l) (y := Cd21.r.r.l.r.l.l.r.r.l.l.r.r) (by kernel_rfl) ?_
     refine EW.region (id := 8) (ops := Cd21.r.r.l.r.l.l.r.r.l.l.r.l.ops) (by kernel_rfl) ?_
     refine EL.quick 5 [0, 1, 2, 9, 21, 22, 23, 29, 31, 32, 33] [(0, .slice (some a6) a0.length a2), (1, .int .i64 a3), (2, .int .i64 a4), (9, .int .i64 a1), (21, .slice (some a6) a0.length a2), (22, .int .i64 (a0.length : Int)), (23, .int .i64 a1), (29, .slice b0 (a0.getD a1.toNat []).length b1), (31, .int .i64 (a0.length : Int)), (32, .int .i64 a3), (33, .int .i64 a4)] (by kernel_rfl) ?_
     have hS : St B _ (os) (Ro.sl kS32 b0 b1 (a0.getD a1.toNat []) :: Ro.sl kS32 b0 b1 (a0.getD a1.toNat []) :: Ro.sl (Kd.slice kS32) (some a6) a2 a0 :: rs) := hS.re [] [] rfl (sub_cons 0 rfl sub_self)
     obtain ⟨a9, a7, c0, H⟩ := b2_out H
     refine EL.of (EO.callD 16 [.slice b0 (a0.getD a1.toNat []).length b1, .int .i64 (a0.length : Int), .int .i64 a3, .int .i64 a4] _ 34 (by kernel_rfl) (by kernel_rfl) (by kernel_rfl) (verify_Func.calls c0 hS) ?_)
     rintro v w ⟨rfl, hS⟩
     refine EL.quick 5 [0, 1, 2, 9, 11, 12, 21, 22, 23] [(0, .slice (some a6) a0.length a2), (1, .int .i64 a3), (2, .int .i64 a4), (9, .int .i64 a1), (11, .int .i64 a9), (12, .int .i64 a7), (21, .slice (some a6) a0.length a2), (22, .int .i64 (a0.length : Int)), (23, .int .i64 a1)] (by kernel_rfl) ?_
     refine EL.done (by kernel_rfl) ?_
     refine EQ.code ?_
     refine EW.seq (x := Cd21.r.r.l.r.l.l.r.r.l.l.r.r.l) (y := Cd21.r.r.l.r.l.l.r.r.l.l.r.r.r) (by kernel_rfl) ?_
     refine EW.region (id := 9) (ops := Cd21.r.r.l.r.l.l.r.r.l.l.r.r.l.ops) (by kernel_rfl) ?_
     refine EL.quick 2 [0, 1, 2, 9, 11, 12, 21, 22, 23, 38] [(0, .slice (some a6) a0.length a2), (1, .int .i64 a3), (2, .int .i64 a4), (9, .int .i64 a1), (11, .int .i64 a9), (12, .int .i64 a7), (21, .slice (some a6) a0.length a2), (22, .int .i64 (a0.length : Int)), (23, .int .i64 a1), (38, .bool (!(decide (a7 = 0))))] (by kernel_rfl) ?_
     refine EL.done (by kernel_rfl) ?_
     refine EQ.code ?_
     refine EW.condQ (b := !(decide (a7 = 0))) (o := (.tmp 38)) (x := Cd21.r.r.l.r.l.l.r.r.l.l.r.r.r.l) (y := Cd21.r.r.l.r.l.l.r.r.l.l.r.r.r.r) (a7 = 0) (false) (by kernel_rfl) (by kernel_rfl) ⟨fun h => (by rw [decide_eq_true h] <;> rfl), fun h => (by rw [decide_eq_false h] <;> rfl)⟩ (fun b6 => ?_) (fun b6 => ?_)
     ·rw [if_pos b6] at H
      refine EW.skip (by kernel_rfl) ?_
      refine EQ.pop ?_
      refine EQ.code ?_
      refine EW.region (id := 11) (ops := Cd21.r.r.l.r.l.l.r.r.r.ops) (by kernel_rfl) ?_
      refine EL.quick 2 [0, 1, 2, 21, 22, 23] [(0, .slice (some a6) a0.length a2), (1, .int .i64 a3), (2, .int .i64 a4), (21, .slice (some a6) a0.length a2), (22, .int .i64 (a0.length : Int)), (23, .int .i64 (IntKind.i64.wrap (a1 + 1)))] (by kernel_rfl) ?_
      refine EL.done (by kernel_rfl) ?_
      refine EQ.to ?_
      refine EQ.keep [0, 1, 2, 21, 22, 23] [(0, .slice (some a6) a0.length a2), (1, .int .i64 a3), (2, .int .i64 a4), (21, .slice (some a6) a0.length a2), (22, .int .i64 (a0.length : Int)), (23, .int .i64 (IntKind.i64.wrap (a1 + 1)))] (by kernel_rfl) ?_
      exact fun a ha => ⟨n, Nat.lt_succ_self n, IntKind.i64.wrap (a1 + 1), ha, (hS.re [] [] rfl (sub_cons 2 rfl (sub_tail (sub_tail (sub_tail (sub_self)))))), H⟩
     ·rw [if_neg b6] at H
      refine EW.seq (x := Cd21.r.r.l.r.l.l.r.r.l.l.r.r.r.l.l) (y := Cd21.r.r.l.r.l.l.r.r.l.l.r.r.r.l.r) (by kernel_rfl) ?_
      refine EW.region (id := 10) (ops := Cd21.r.r.l.r.l.l.r.r.l.l.r.r.r.l.l.ops) (by kernel_rfl) ?_
      refine EL.quick 6 [6, 7, 8] [(6, .int .i64 a1), (7, .int .i64 a9), (8, .int .i64 a7)] (by kernel_rfl) ?_
      refine EL.done (by kernel_rfl) ?_
      refine EQ.code ?_
      refine EW.ret (by kernel_rfl) ?_
      refine EQ.ret ?_
      refine EQ.ret ?_
      refine EQ.ret ?_
      refine EQ.ret ?_
      refine EQ.ret ?_
      simp only [Option.some.injEq, Prod.mk.injEq] at H
      obtain ⟨rfl, rfl, rfl⟩ := H
      exact EQ.leave (.tuple #[.int .i64 a1, .int .i64 a9, .int .i64 a7]) (by kernel_rfl) ⟨_, rfl, rfl, (hS.re [] [] rfl (sub_tail (sub_tail (sub_self))))⟩
    ·rw [if_neg a8] at H
     refine EW.exit (id := 1) (by kernel_rfl) ?_
     refine EQ.exitCode ?_
     refine EQ.exitTo ?_
     refine EQ.exitHere ?_
     refine EQ.code ?_
     refine EW.seq (x := Cd21.r.r.r.l) (y := Cd21.r.r.r.r) (by kernel_rfl) ?_
     refine EW.region (id := 12) (ops := Cd21.r.r.r.l.ops) (by kernel_rfl) ?_
     refine EL.quick 3 [6, 7, 8] [(6, .int .i64 0), (7, .int .i64 0), (8, .int .i64 0)] (by kernel_rfl) ?_
     refine EL.done (by kernel_rfl) ?_
     refine EQ.code ?_
     refine EW.ret (by kernel_rfl) ?_
     simp only [Option.some.injEq, Prod.mk.injEq] at H
     obtain ⟨rfl, rfl, rfl⟩ := H
     exact EQ.leave (.tuple #[.int .i64 0, .int .i64 0, .int .i64 0]) (by kernel_rfl) ⟨_, rfl, rfl, (hS.re [] [] rfl (sub_self))⟩

/-! ### confidant/confidantlaw8.known: function 12 -/
def confidantlaw8_known.f (K : Nat)  : Option Bool := lt ([(⟨1, 0⟩ : S32), (⟨4, 0⟩ : S32), (⟨25, 0⟩ : S32)] : List S32) fun b4 => (b2 (verify_Func.f K b4 1 1 0) fun (b0 : Int) (a7 : Int) => (lt ([(⟨1, 0⟩ : S32), (⟨25, 0⟩ : S32)] : List S32) fun b6 => (b2 (verify_Func.f K b6 1 1 0) fun (e4 : Int) (a6 : Int) => (lt ([(⟨1, 0⟩ : S32), (⟨25, 0⟩ : S32), (⟨2, 0⟩ : S32)] : List S32) fun b8 => (b1 (verify_Depths.f K b8) fun (a0 : List Int) => (lt ([(⟨1, 0⟩ : S32), (⟨25, 0⟩ : S32)] : List S32) fun a8 => (lt ([(⟨25, 0⟩ : S32)] : List S32) fun a9 => (b3 (verify_Image.f K ([a8, a9] : List (List S32)) 1 0) fun (a3 : Int) (a2 : Int) (a1 : Int) => (if b0 = 1 then (if a7 = 24 then (if a6 = 0 then (if (a0.length : Int) = 3 then (if (1 : Int) < (a0.length : Int) then (if (a0.getD (1 : Int).toNat 0) = 1 then (if (2 : Int) < (a0.length : Int) then (if (a0.getD (2 : Int).toNat 0) = (-1) then (if a3 = 1 then (if a2 = 0 then (some (decide (a1 = 24))) else (some false)) else (some false)) else (some false)) else none) else (some false)) else none) else (some false)) else (some false)) else (some false)) else (some false))))))))))
set_option maxRecDepth 100000 in
theorem confidantlaw8_known.calls {K : Nat} {d9 : Bool} {B w : World} {os : List Ass} {rs : List Ro} (H : confidantlaw8_known.f K = some d9) (hS : St B w (os) (rs)) :
  Calls Try.prog 12 [].toArray w (fun en w' => ∃ v, en = .returned v ∧ v = .bool (d9) ∧ St B w' (os) (rs)) := by
 unfold confidantlaw8_known.f at H
 refine calls_of_EW (args := []) (c := Cd12) 79 Try.func12 (by kernel_rfl) (by kernel_rfl) (by kernel_rfl) ?_
 refine EW.seq (x := Cd12.l) (y := Cd12.r) (by kernel_rfl) ?_
 refine EW.region (id := 0) (ops := Cd12.l.ops) (by kernel_rfl) ?_
 refine EL.quick 1 [] [] (by kernel_rfl) ?_
 refine EL.done (by kernel_rfl) ?_
 refine EQ.code ?_
 refine EW.seq (x := Cd12.r.l) (y := Cd12.r.r) (by kernel_rfl) ?_
 refine EW.region (id := 1) (ops := Cd12.r.l.ops) (by kernel_rfl) ?_
 refine EL.quick 3 [10, 11, 12] [(10, .agg #[.int .i64 1, .int .i32 0]), (11, .agg #[.int .i64 4, .int .i32 0]), (12, .agg #[.int .i64 25, .int .i32 0])] (by kernel_rfl) ?_
 obtain ⟨b4, d4, H⟩ := lt_out H
 refine EL.of (EO.lit hS kS32 32 29 3 #[(0, .agg #[.int .i64 1, .int .i32 0]), (1, .agg #[.int .i64 4, .int .i32 0]), (2, .agg #[.int .i64 25, .int .i32 0])] [.int .i64 1, .int .i32 0, .int .i64 4, .int .i32 0, .int .i64 25, .int .i32 0] b4 13 (by kernel_rfl) (by kernel_rfl) (by kernel_rfl) (fun _ => (by kernel_rfl)) (by rw [d4]; rfl) (by kernel_rfl) (fun w G hr => (by rw [d4]; exact ⟨[.int .i64 1, .int .i32 0], [.int .i64 4, .int .i32 0, .int .i64 25, .int .i32 0], rfl, ⟨[.int .i64 1], [.int .i32 0], rfl, rfl, ⟨[.int .i32 0], [], rfl, rfl, rfl⟩⟩, ⟨[.int .i64 4, .int .i32 0], [.int .i64 25, .int .i32 0], rfl, ⟨[.int .i64 4], [.int .i32 0], rfl, rfl, ⟨[.int .i32 0], [], rfl, rfl, rfl⟩⟩, ⟨[.int .i64 25, .int .i32 0], [], rfl, ⟨[.int .i64 25], [.int .i32 0], rfl, rfl, ⟨[.int .i32 0], [], rfl, rfl, rfl⟩⟩, rfl⟩⟩⟩)) ?_)
 intro b7 w hS
 have hS := St.fr hS 0 rfl
 have hS : St B _ (os) (Ro.sl kS32 (some ⟨b7, 0, none⟩) 3 b4 :: Ro.sl kS32 (some ⟨b7, 0, none⟩) 3 b4 :: rs) := hS.re [] [] rfl (sub_cons 0 rfl sub_self)
 obtain ⟨b0, a7, e0, H⟩ := b2_out H
 refine EL.of (EO.callD 16 [.slice (some ⟨b7, 0, none⟩) b4.length 3, .int .i64 1, .int .i64 1, .int .i64 0] _ 14 (by kernel_rfl) (by kernel_rfl) (by kernel_rfl) (verify_Func.calls e0 hS) ?_)
 rintro v w ⟨rfl, hS⟩
 refine EL.quick 5 [1, 2] [(1, .int .i64 b0), (2, .int .i64 a7)] (by kernel_rfl) ?_
 refine EL.done (by kernel_rfl) ?_
 refine EQ.code ?_
 refine EW.seq (x := Cd12.r.r.l) (y := Cd12.r.r.r) (by kernel_rfl) ?_
 refine EW.region (id := 2) (ops := Cd12.r.r.l.ops) (by kernel_rfl) ?_
 refine EL.quick 2 [1, 2, 18, 19] [(1, .int .i64 b0), (2, .int .i64 a7), (18, .agg #[.int .i64 1, .int .i32 0]), (19, .agg #[.int .i64 25, .int .i32 0])] (by kernel_rfl) ?_
 obtain ⟨b6, d5, H⟩ := lt_out H
 refine EL.of (EO.lit hS kS32 32 29 2 #[(0, .agg #[.int .i64 1, .int .i32 0]), (1, .agg #[.int .i64 25, .int .i32 0])] [.int .i64 1, .int .i32 0, .int .i64 25, .int .i32 0] b6 20 (by kernel_rfl) (by kernel_rfl) (by kernel_rfl) (fun _ => (by kernel_rfl)) (by rw [d5]; rfl) (by kernel_rfl) (fun w G hr => (by rw [d5]; exact ⟨[.int .i64 1, .int .i32 0], [.int .i64 25, .int .i32 0], rfl, ⟨[.int .i64 1], [.int .i32 0], rfl, rfl, ⟨[.int .i32 0], [], rfl, rfl, rfl⟩⟩, ⟨[.int .i64 25, .int .i32 0], [], rfl, ⟨[.int .i64 25], [.int .i32 0], rfl, rfl, ⟨[.int .i32 0], [], rfl, rfl, rfl⟩⟩, rfl⟩⟩)) ?_)
 intro b9 w hS
 have hS := St.fr hS 0 rfl
 have hS : St B _ (os) (Ro.sl kS32 (some ⟨b9, 0, none⟩) 2 b6 :: Ro.sl kS32 (some ⟨b9, 0, none⟩) 2 b6 :: Ro.sl kS32 (some ⟨b7, 0, none⟩) 3 b4 :: Ro.sl kS32 (some ⟨b7, 0, none⟩) 3 b4 :: rs) := hS.re [] [] rfl (sub_cons 0 rfl sub_self)
 obtain ⟨e4, a6, e1, H⟩ := b2_out H
 refine EL.of (EO.callD 16 [.slice (some ⟨b9, 0, none⟩) b6.length 2, .int .i64 1, .int .i64 1, .int .i64 0] _ 21 (by kernel_rfl) (by kernel_rfl) (by kernel_rfl) (verify_Func.calls e1 hS) ?_)
 rintro v w ⟨rfl, hS⟩
 refine EL.quick 5 [1, 2, 4] [(1, .int .i64 b0), (2, .int .i64 a7), (4, .int .i64 a6)] (by kernel_rfl) ?_
 refine EL.done (by kernel_rfl) ?_
 refine EQ.code ?_
 refine EW.seq (x := Cd12.r.r.r.l) (y := Cd12.r.r.r.r) (by kernel_rfl) ?_
 refine EW.region (id := 3) (ops := Cd12.r.r.r.l.ops) (by kernel_rfl) ?_
 refine EL.quick 3 [1, 2, 4, 24, 25, 26] [(1, .int .i64 b0), (2, .int .i64 a7), (4, .int .i64 a6), (24, .agg #[.int .i64 1, .int .i32 0]), (25, .agg #[.int .i64 25, .int .i32 0]), (26, .agg #[.int .i64 2, .int .i32 0])] (by kernel_rfl) ?_
 obtain ⟨b8, d6, H⟩ := lt_out H
 refine EL.of (EO.lit hS kS32 32 29 3 #[(0, .agg #[.int .i64 1, .int .i32 0]), (1, .agg #[.int .i64 25, .int .i32 0]), (2, .agg #[.int .i64 2, .int .i32 0])] [.int .i64 1, .int .i32 0, .int .i64 25, .int .i32 0, .int .i64 2, .int .i32 0] b8 27 (by kernel_rfl) (by kernel_rfl) (by kernel_rfl) (fun _ => (by kernel_rfl)) (by rw [d6]; rfl) (by kernel_rfl) (fun w G hr => (by rw [d6]; exact ⟨[.int .i64 1, .int .i32 0], [.int .i64 25, .int .i32 0, .int .i64 2, .int .i32 0], rfl, ⟨[.int .i64 1], [.int .i32 0], rfl, rfl, ⟨[.int .i32 0], [], rfl, rfl, rfl⟩⟩, ⟨[.int .i64 25, .int .i32 0], [.int .i64 2, .int .i32 0], rfl, ⟨[.int .i64 25], [.int .i32 0], rfl, rfl, ⟨[.int .i32 0], [], rfl, rfl, rfl⟩⟩, ⟨[.int .i64 2, .int .i32 0], [], rfl, ⟨[.int .i64 2], [.int .i32 0], rfl, rfl, ⟨[.int .i32 0], [], rfl, rfl, rfl⟩⟩, rfl⟩⟩⟩)) ?_)
 intro c2 w hS
 have hS := St.fr hS 0 rfl
 have hS : St B _ (os) (Ro.sl kS32 (some ⟨c2, 0, none⟩) 3 b8 :: Ro.sl kS32 (some ⟨c2, 0, none⟩) 3 b8 :: Ro.sl kS32 (some ⟨b9, 0, none⟩) 2 b6 :: Ro.sl kS32 (some ⟨b9, 0, none⟩) 2 b6 :: Ro.sl kS32 (some ⟨b7, 0, none⟩) 3 b4 :: Ro.sl kS32 (some ⟨b7, 0, none⟩) 3 b4 :: rs) := hS.re [] [] rfl (sub_cons 0 rfl sub_self)
 obtain ⟨a0, e2, H⟩ := b1_out H
 refine EL.of (EO.callD 19 [.slice (some ⟨c2, 0, none⟩) b8.length 3] _ 28 (by kernel_rfl) (by kernel_rfl) (by kernel_rfl) (verify_Depths.calls e2 hS) ?_)
 rintro v w ⟨a5, a4, rfl, hS⟩
 refine EL.quick 1 [1, 2, 4, 5] [(1, .int .i64 b0), (2, .int .i64 a7), (4, .int .i64 a6), (5, .slice a5 a0.length a4)] (by kernel_rfl) ?_
 refine EL.done (by kernel_rfl) ?_
 refine EQ.code ?_
 refine EW.seq (x := Cd12.r.r.r.r.l) (y := Cd12.r.r.r.r.r) (by kernel_rfl) ?_
 refine EW.region (id := 4) (ops := Cd12.r.r.r.r.l.ops) (by kernel_rfl) ?_
 refine EL.quick 2 [1, 2, 4, 5, 30, 31] [(1, .int .i64 b0), (2, .int .i64 a7), (4, .int .i64 a6), (5, .slice a5 a0.length a4), (30, .agg #[.int .i64 1, .int .i32 0]), (31, .agg #[.int .i64 25, .int .i32 0])] (by kernel_rfl) ?_
 obtain ⟨a8, d7, H⟩ := lt_out H
 refine EL.of (EO.lit hS kS32 32 29 2 #[(0, .agg #[.int .i64 1, .int .i32 0]), (1, .agg #[.int .i64 25, .int .i32 0])] [.int .i64 1, .int .i32 0, .int .i64 25, .int .i32 0] a8 32 (by kernel_rfl) (by kernel_rfl) (by kernel_rfl) (fun _ => (by kernel_rfl)) (by rw [d7]; rfl) (by kernel_rfl) (fun w G hr => (by rw [d7]; exact ⟨[.int .i64 1, .int .i32 0], [.int .i64 25, .int .i32 0], rfl, ⟨[.int .i64 1], [.int .i32 0], rfl, rfl, ⟨[.int .i32 0], [], rfl, rfl, rfl⟩⟩, ⟨[.int .i64 25, .int .i32 0], [], rfl, ⟨[.int .i64 25], [.int .i32 0], rfl, rfl, ⟨[.int .i32 0], [], rfl, rfl, rfl⟩⟩, rfl⟩⟩)) ?_)
 intro c0 w hS
 refine EL.quick 1 [1, 2, 4, 5, 32, 33] [(1, .int .i64 b0), (2, .int .i64 a7), (4, .int .i64 a6), (5, .slice a5 a0.length a4), (32, .slice (some ⟨c0, 0, none⟩) a8.length 2), (33, .agg #[.int .i64 25, .int .i32 0])] (by kernel_rfl) ?_
 obtain ⟨a9, d8, H⟩ := lt_out H
 refine EL.of (EO.lit hS kS32 32 29 1 #[(0, .agg #[.int .i64 25, .int .i32 0])] [.int .i64 25, .int .i32 0] a9 34 (by kernel_rfl) (by kernel_rfl) (by kernel_rfl) (fun _ => (by kernel_rfl)) (by rw [d8]; rfl) (by kernel_rfl) (fun w G hr => (by rw [d8]; exact ⟨[.int .i64 25, .int .i32 0], [], rfl, ⟨[.int .i64 25], [.int .i32 0], rfl, rfl, ⟨[.int .i32 0], [], rfl, rfl, rfl⟩⟩, rfl⟩)) ?_)
 intro c1 w hS
 refine EL.of (EO.lit (xs := ([((some ⟨c0, 0, none⟩), a8.length, 2), ((some ⟨c1, 0, none⟩), a9.length, 1)] : List Hdr)) hS Kd.hdr 29 23 2 #[(0, .slice (some ⟨c0, 0, none⟩) a8.length 2), (1, .slice (some ⟨c1, 0, none⟩) a9.length 1)] [.slice (some ⟨c0, 0, none⟩) a8.length 2, .slice (some ⟨c1, 0, none⟩) a9.length 1] 35 (by kernel_rfl) (by kernel_rfl) (by kernel_rfl) (fun _ => (by kernel_rfl)) rfl (by kernel_rfl) (fun w G hr => ⟨[.slice (some ⟨c0, 0, none⟩) a8.length 2], [.slice (some ⟨c1, 0, none⟩) a9.length 1], rfl, rfl, ⟨[.slice (some ⟨c1, 0, none⟩) a9.length 1], [], rfl, rfl, rfl⟩⟩) ?_)
 intro c3 w hS
 have hS := St.as (os' := Ass.deep 29 32 kS32 (some ⟨c3, 0, none⟩) 2 ([a8, a9] : List (List S32)) :: Ass.own 3 (Kd.int .i64) a5 a4 a0 :: os) (St.fold (B := B) (os := _) (rs := _) (et := 29) (et' := 32) (K := kS32) (hs := [((some ⟨c0, 0, none⟩), a8.length, 2), ((some ⟨c1, 0, none⟩), a9.length, 1)]) (xs := ([a8, a9] : List (List S32))) ⟨rfl, rfl, trivial⟩ (St.re hS [1, 2, 2] [] rfl sub_self)) rfl
 have hS := St.frDeep hS 0 rfl
 have hS : St B _ (Ass.own 3 (Kd.int .i64) a5 a4 a0 :: os) (Ro.sl (Kd.slice kS32) (some ⟨c3, 0, none⟩) 2 ([a8, a9] : List (List S32)) :: Ro.sl (Kd.slice kS32) (some ⟨c3, 0, none⟩) 2 ([a8, a9] : List (List S32)) :: Ro.sl kS32 (some ⟨c2, 0, none⟩) 3 b8 :: Ro.sl kS32 (some ⟨c2, 0, none⟩) 3 b8 :: Ro.sl kS32 (some ⟨b9, 0, none⟩) 2 b6 :: Ro.sl kS32 (some ⟨b9, 0, none⟩) 2 b6 :: Ro.sl kS32 (some ⟨b7, 0, none⟩) 3 b4 :: Ro.sl kS32 (some ⟨b7, 0, none⟩) 3 b4 :: rs) := hS.re [] [] rfl (sub_cons 0 rfl sub_self)
 obtain ⟨a3, a2, a1, e3, H⟩ := b3_out H
 refine EL.of (EO.callD 21 [.slice (some ⟨c3, 0, none⟩) ([a8, a9] : List (List S32)).length 2, .int .i64 1, .int .i64 0] _ 36 (by kernel_rfl) (by kernel_rfl) (by kernel_rfl) (verify_Image.calls e3 hS) ?_)
 rintro v w ⟨rfl, hS⟩
 refine EL.quick 7 [1, 2, 4, 5, 6, 7, 8] [(1, .int .i64 b0), (2, .int .i64 a7), (4, .int .i64 a6), (5, .slice a5 a0.length a4), (6, .int .i64 a3), (7, .int .i64 a2), (8, .int .i64 a1)] (by kernel_rfl) ?_
 refine EL.done (by kernel_rfl) ?_
 refine EQ.code ?_
 refine EW.seq (x := Cd12.r.r.r.r.r.l) (y := Cd12.r.r.r.r.r.r) (by kernel_rfl) ?_
 refine EW.region (id := 5) (ops := Cd12.r.r.r.r.r.l.ops) (by kernel_rfl) ?_
 refine EL.quick 3 [2, 4, 5, 6, 7, 8, 42] [(2, .int .i64 a7), (4, .int .i64 a6), (5, .slice a5 a0.length a4), (6, .int .i64 a3), (7, .int .i64 a2), (8, .int .i64 a1), (42, .bool (decide (b0 = 1)))] (by kernel_rfl) ?_
 by_cases c4 : b0 = 1
 ·rw [if_pos c4] at H
  refine EL.keep [2, 4, 5, 6, 7, 8, 42] [(2, .int .i64 a7), (4, .int .i64 a6), (5, .slice a5 a0.length a4), (6, .int .i64 a3), (7, .int .i64 a2), (8, .int .i64 a1), (42, .bool (decide (b0 = 1)))] (by kernel_rfl) ?_
  refine EL.as' [(2, .int .i64 a7), (4, .int .i64 a6), (5, .slice a5 a0.length a4), (6, .int .i64 a3), (7, .int .i64 a2), (8, .int .i64 a1), (42, .bool (true))] (by simp only [dec_t c4, Bool.not_true, Bool.not_false]) ?_
  refine EL.quick 4 [4, 5, 6, 7, 8, 46] [(4, .int .i64 a6), (5, .slice a5 a0.length a4), (6, .int .i64 a3), (7, .int .i64 a2), (8, .int .i64 a1), (46, .bool (decide (a7 = 24)))] (by kernel_rfl) ?_
  by_cases c5 : a7 = 24
  ·rw [if_pos c5] at H
   refine EL.keep [4, 5, 6, 7, 8, 46] [(4, .int .i64 a6), (5, .slice a5 a0.length a4), (6, .int .i64 a3), (7, .int .i64 a2), (8, .int .i64 a1), (46, .bool (decide (a7 = 24)))] (by kernel_rfl) ?_
   refine EL.as' [(4, .int .i64 a6), (5, .slice a5 a0.length a4), (6, .int .i64 a3), (7, .int .i64 a2), (8, .int .i64 a1), (46, .bool (true))] (by simp only [dec_t c5, Bool.not_true, Bool.not_false]) ?_
   refine EL.quick 4 [5, 6, 7, 8, 50] [(5, .slice a5 a0.length a4), (6, .int .i64 a3), (7, .int .i64 a2), (8, .int .i64 a1), (50, .bool (decide (a6 = 0)))] (by kernel_rfl) ?_
   by_cases c6 : a6 = 0
   ·rw [if_pos c6] at H
    refine EL.keep [5, 6, 7, 8, 50] [(5, .slice a5 a0.length a4), (6, .int .i64 a3), (7, .int .i64 a2), (8, .int .i64 a1), (50, .bool (decide (a6 = 0)))] (by kernel_rfl) ?_
    refine EL.as' [(5, .slice a5 a0.length a4), (6, .int .i64 a3), (7, .int .i64 a2), (8, .int .i64 a1), (50, .bool (true))] (by simp only [dec_t c6, Bool.not_true, Bool.not_false]) ?_
    refine EL.quick 5 [5, 6, 7, 8, 55] [(5, .slice a5 a0.length a4), (6, .int .i64 a3), (7, .int .i64 a2), (8, .int .i64 a1), (55, .bool (decide ((a0.length : Int) = 3)))] (by kernel_rfl) ?_
    by_cases c7 : (a0.length : Int) = 3
    ·rw [if_pos c7] at H
     refine EL.keep [5, 6, 7, 8, 55] [(5, .slice a5 a0.length a4), (6, .int .i64 a3), (7, .int .i64 a2), (8, .int .i64 a1), (55, .bool (decide ((a0.length : Int) = 3)))] (by kernel_rfl) ?_
     refine EL.as' [(5, .slice a5 a0.length a4), (6, .int .i64 a3), (7, .int .i64 a2), (8, .int .i64 a1), (55, .bool (true))] (by simp only [dec_t c7, Bool.not_true, Bool.not_false]) ?_
     refine EL.quick 1 [5, 6, 7, 8, 55, 56] [(5, .slice a5 a0.length a4), (6, .int .i64 a3), (7, .int .i64 a2), (8, .int .i64 a1), (55, .bool (true)), (56, .slice a5 a0.length a4)] (by kernel_rfl) ?_
     obtain ⟨d2, H⟩ := ite_in H
     obtain ⟨b5, rfl⟩ := St.rd_some hS (Rd.own 0 3 rfl) (by decide) d2
     refine EL.of (EO.Y (YO.idx 39 1 b5 a0.length a4 .i64 1 57 (by kernel_rfl) (by kernel_rfl) (by kernel_rfl) (by kernel_rfl) (by decide) d2) ?_)
     refine EL.of (EO.Y (YO.loadEl hS (Kd.int .i64) b5 a4 a0 (Rd.own 0 3 rfl) 0 (encI .i64) encI_of 1 (by decide) d2 3 1 0 1 rfl (.int .i64 (a0.getD (1 : Int).toNat 0)) 58 (by kernel_rfl) (by kernel_rfl) (by kernel_rfl) (by kernel_rfl)) ?_)
     refine EL.quick 3 [5, 6, 7, 8, 61] [(5, .slice (some b5) a0.length a4), (6, .int .i64 a3), (7, .int .i64 a2), (8, .int .i64 a1), (61, .bool (decide ((a0.getD (1 : Int).toNat 0) = 1)))] (by kernel_rfl) ?_
     by_cases c8 : (a0.getD (1 : Int).toNat 0) = 1
     ·rw [if_pos c8] at H
      refine EL.keep [5, 6, 7, 8, 61] [(5, .slice (some b5) a0.length a4), (6, .int .i64 a3), (7, .int .i64 a2), (8, .int .i64 a1), (61, .bool (decide ((a0.getD (1 : Int).toNat 0) = 1)))] (by kernel_rfl) ?_
      refine EL.as' [(5, .slice (some b5) a0.length a4), (6, .int .i64 a3), (7, .int .i64 a2), (8, .int .i64 a1), (61, .bool (true))] (by simp only [dec_t c8, Bool.not_true, Bool.not_false]) ?_
      refine EL.quick 1 [6, 7, 8, 61, 62] [(6, .int .i64 a3), (7, .int .i64 a2), (8, .int .i64 a1), (61, .bool (true)), (62, .slice (some b5) a0.length a4)] (by kernel_rfl) ?_
      obtain ⟨d3, H⟩ := ite_in H
      refine EL.of (EO.Y (YO.idx 39 1 b5 a0.length a4 .i64 2 63 (by kernel_rfl) (by kernel_rfl) (by kernel_rfl) (by kernel_rfl) (by decide) d3) ?_)
      refine EL.of (EO.Y (YO.loadEl hS (Kd.int .i64) b5 a4 a0 (Rd.own 0 3 rfl) 0 (encI .i64) encI_of 2 (by decide) d3 3 1 0 1 rfl (.int .i64 (a0.getD (2 : Int).toNat 0)) 64 (by kernel_rfl) (by kernel_rfl) (by kernel_rfl) (by kernel_rfl)) ?_)
      refine EL.quick 3 [6, 7, 8, 67] [(6, .int .i64 a3), (7, .int .i64 a2), (8, .int .i64 a1), (67, .bool (decide ((a0.getD (2 : Int).toNat 0) = (-1))))] (by kernel_rfl) ?_
      by_cases c9 : (a0.getD (2 : Int).toNat 0) = (-1)
      ·rw [if_pos c9] at H
       refine EL.keep [6, 7, 8, 67] [(6, .int .i64 a3), (7, .int .i64 a2), (8, .int .i64 a1), (67, .bool (decide ((a0.getD (2 : Int).toNat 0) = (-1))))] (by kernel_rfl) ?_
       refine EL.as' [(6, .int .i64 a3), (7, .int .i64 a2), (8, .int .i64 a1), (67, .bool (true))] (by simp only [dec_t c9, Bool.not_true, Bool.not_false]) ?_
       refine EL.quick 4 [7, 8, 71] [(7, .int .i64 a2), (8, .int .i64 a1), (71, .bool (decide (a3 = 1)))] (by kernel_rfl) ?_
       by_cases d0 : a3 = 1
       ·rw [if_pos d0] at H
        refine EL.keep [7, 8, 71] [(7, .int .i64 a2), (8, .int .i64 a1), (71, .bool (decide (a3 = 1)))] (by kernel_rfl) ?_
        refine EL.as' [(7, .int .i64 a2), (8, .int .i64 a1), (71, .bool (true))] (by simp only [dec_t d0, Bool.not_true, Bool.not_false]) ?_
        refine EL.quick 4 [8, 75] [(8, .int .i64 a1), (75, .bool (decide (a2 = 0)))] (by kernel_rfl) ?_
        by_cases d1 : a2 = 0
        ·rw [if_pos d1] at H
         refine EL.keep [8, 75] [(8, .int .i64 a1), (75, .bool (decide (a2 = 0)))] (by kernel_rfl) ?_
         refine EL.as' [(8, .int .i64 a1), (75, .bool (true))] (by simp only [dec_t d1, Bool.not_true, Bool.not_false]) ?_
         refine EL.quick 4 [0] [(0, .bool (decide (a1 = 24)))] (by kernel_rfl) ?_
         refine EL.done (by kernel_rfl) ?_
         refine EQ.code ?_
         refine EW.ret (by kernel_rfl) ?_
         obtain rfl := Option.some.inj H
         exact EQ.leave (.bool (decide (a1 = 24))) (by kernel_rfl) ⟨_, rfl, rfl, (hS.re [] [0] rfl (sub_tail (sub_tail (sub_tail (sub_tail (sub_tail (sub_tail (sub_tail (sub_tail (sub_self))))))))))⟩
        ·rw [if_neg d1] at H
         refine EL.keep [8, 75] [(8, .int .i64 a1), (75, .bool (decide (a2 = 0)))] (by kernel_rfl) ?_
         refine EL.as' [(8, .int .i64 a1), (75, .bool (false))] (by simp only [dec_f d1, Bool.not_true, Bool.not_false]) ?_
         refine EL.quick 4 [0] [(0, .bool (false))] (by kernel_rfl) ?_
         refine EL.done (by kernel_rfl) ?_
         refine EQ.code ?_
         refine EW.ret (by kernel_rfl) ?_
         obtain rfl := Option.some.inj H
         exact EQ.leave (.bool (false)) (by kernel_rfl) ⟨_, rfl, rfl, (hS.re [] [0] rfl (sub_tail (sub_tail (sub_tail (sub_tail (sub_tail (sub_tail (sub_tail (sub_tail (sub_self))))))))))⟩
       ·rw [if_neg d0] at H
        refine EL.keep [7, 8, 71] [(7, .int .i64 a2), (8, .int .i64 a1), (71, .bool (decide (a3 = 1)))] (by kernel_rfl) ?_
        refine EL.as' [(7, .int .i64 a2), (8, .int .i64 a1), (71, .bool (false))] (by simp only [dec_f d0, Bool.not_true, Bool.not_false]) ?_
        refine EL.quick 8 [0] [(0, .bool (false))] (by kernel_rfl) ?_
        refine EL.done (by kernel_rfl) ?_
        refine EQ.code ?_
        refine EW.ret (by kernel_rfl) ?_
        obtain rfl := Option.some.inj H
        exact EQ.leave (.bool (false)) (by kernel_rfl) ⟨_, rfl, rfl, (hS.re [] [0] rfl (sub_tail (sub_tail (sub_tail (sub_tail (sub_tail (sub_tail (sub_tail (sub_tail (sub_self))))))))))⟩
      ·rw [if_neg c9] at H
       refine EL.keep [6, 7, 8, 67] [(6, .int .i64 a3), (7, .int .i64 a2), (8, .int .i64 a1), (67, .bool (decide ((a0.getD (2 : Int).toNat 0) = (-1))))] (by kernel_rfl) ?_
       refine EL.as' [(6, .int .i64 a3), (7, .int .i64 a2), (8, .int .i64 a1), (67, .bool (false))] (by simp only [dec_f c9, Bool.not_true, Bool.not_false]) ?_
       refine EL.quick 12 [0] [(0, .bool (false))] (by kernel_rfl) ?_
       refine EL.done (by kernel_rfl) ?_
       refine EQ.code ?_
       refine EW.ret (by kernel_rfl) ?_
       obtain rfl := Option.some.inj H
       exact EQ.leave (.bool (false)) (by kernel_rfl) ⟨_, rfl, rfl, (hS.re [] [0] rfl (sub_tail (sub_tail (sub_tail (sub_tail (sub_tail (sub_tail (sub_tail (sub_tail (sub_self))))))))))⟩
     ·rw [if_neg c8] at H
      refine EL.keep [5, 6, 7, 8, 61] [(5, .slice (some b5) a0.length a4), (6, .int .i64 a3), (7, .int .i64 a2), (8, .int .i64 a1), (61, .bool (decide ((a0.getD (1 : Int).toNat 0) = 1)))] (by kernel_rfl) ?_
      refine EL.as' [(5, .slice (some b5) a0.length a4), (6, .int .i64 a3), (7, .int .i64 a2), (8, .int .i64 a1), (61, .bool (false))] (by simp only [dec_f c8, Bool.not_true, Bool.not_false]) ?_
      refine EL.quick 18 [0] [(0, .bool (false))] (by kernel_rfl) ?_
      refine EL.done (by kernel_rfl) ?_
      refine EQ.code ?_
      refine EW.ret (by kernel_rfl) ?_
      obtain rfl := Option.some.inj H
      exact EQ.leave (.bool (false)) (by kernel_rfl) ⟨_, rfl, rfl, (hS.re [] [0] rfl (sub_tail (sub_tail (sub_tail (sub_tail (sub_tail (sub_tail (sub_tail (sub_tail (sub_self))))))))))⟩
    ·rw [if_neg c7] at H
     refine EL.keep [5, 6, 7, 8, 55] [(5, .slice a5 a0.length a4), (6, .int .i64 a3), (7, .int .i64 a2), (8, .int .i64 a1), (55, .bool (decide ((a0.length : Int) = 3)))] (by kernel_rfl) ?_
     refine EL.as' [(5, .slice a5 a0.length a4), (6, .int .i64 a3), (7, .int .i64 a2), (8, .int .i64 a1), (55, .bool (false))] (by simp only [dec_f c7, Bool.not_true, Bool.not_false]) ?_
     refine EL.quick 24 [0] [(0, .bool (false))] (by kernel_rfl) ?_
     refine EL.done (by kernel_rfl) ?_
     refine EQ.code ?_
     refine EW.ret (by kernel_rfl) ?_
     obtain rfl := Option.some.inj H
     exact EQ.leave (.bool (false)) (by kernel_rfl) ⟨_, rfl, rfl, (hS.re [] [0] rfl (sub_tail (sub_tail (sub_tail (sub_tail (sub_tail (sub_tail (sub_tail (sub_tail (sub_self))))))))))⟩
   ·rw [if_neg c6] at H
    refine EL.keep [5, 6, 7, 8, 50] [(5, .slice a5 a0.length a4), (6, .int .i64 a3), (7, .int .i64 a2), (8, .int .i64 a1), (50, .bool (decide (a6 = 0)))] (by kernel_rfl) ?_
    refine EL.as' [(5, .slice a5 a0.length a4), (6, .int .i64 a3), (7, .int .i64 a2), (8, .int .i64 a1), (50, .bool (false))] (by simp only [dec_f c6, Bool.not_true, Bool.not_false]) ?_
    refine EL.quick 29 [0] [(0, .bool (false))] (by kernel_rfl) ?_
    refine EL.done (by kernel_rfl) ?_
    refine EQ.code ?_
    refine EW.ret (by kernel_rfl) ?_
    obtain rfl := Option.some.inj H
    exact EQ.leave (.bool (false)) (by kernel_rfl) ⟨_, rfl, rfl, (hS.re [] [0] rfl (sub_tail (sub_tail (sub_tail (sub_tail (sub_tail (sub_tail (sub_tail (sub_tail (sub_self))))))))))⟩
  ·rw [if_neg c5] at H
   refine EL.keep [4, 5, 6, 7, 8, 46] [(4, .int .i64 a6), (5, .slice a5 a0.length a4), (6, .int .i64 a3), (7, .int .i64 a2), (8, .int .i64 a1), (46, .bool (decide (a7 = 24)))] (by kernel_rfl) ?_
   refine EL.as' [(4, .int .i64 a6), (5, .slice a5 a0.length a4), (6, .int .i64 a3), (7, .int .i64 a2), (8, .int .i64 a1), (46, .bool (false))] (by simp only [dec_f c5, Bool.not_true, Bool.not_false]) ?_
   refine EL.quick 33 [0] [(0, .bool (false))] (by kernel_rfl) ?_
   refine EL.done (by kernel_rfl) ?_
   refine EQ.code ?_
   refine EW.ret (by kernel_rfl) ?_
   obtain rfl := Option.some.inj H
   exact EQ.leave (.bool (false)) (by kernel_rfl) ⟨_, rfl, rfl, (hS.re [] [0] rfl (sub_tail (sub_tail (sub_tail (sub_tail (sub_tail (sub_tail (sub_tail (sub_tail (sub_self))))))))))⟩
 ·rw [if_neg c4] at H
  refine EL.keep [2, 4, 5, 6, 7, 8, 42] [(2, .int .i64 a7), (4, .int .i64 a6), (5, .slice a5 a0.length a4), (6, .int .i64 a3), (7, .int .i64 a2), (8, .int .i64 a1), (42, .bool (decide (b0 = 1)))] (by kernel_rfl) ?_
  refine EL.as' [(2, .int .i64 a7), (4, .int .i64 a6), (5, .slice a5 a0.length a4), (6, .int .i64 a3), (7, .int .i64 a2), (8, .int .i64 a1), (42, .bool (false))] (by simp only [dec_f c4, Bool.not_true, Bool.not_false]) ?_
  refine EL.quick 37 [0] [(0, .bool (false))] (by kernel_rfl) ?_
  refine EL.done (by kernel_rfl) ?_
  refine EQ.code ?_
  refine EW.ret (by kernel_rfl) ?_
  obtain rfl := Option.some.inj H
  exact EQ.leave (.bool (false)) (by kernel_rfl) ⟨_, rfl, rfl, (hS.re [] [0] rfl (sub_tail (sub_tail (sub_tail (sub_tail (sub_tail (sub_tail (sub_tail (sub_tail (sub_self))))))))))⟩

end Go.Proofs.Ytlcnkngpankkpaa.G
