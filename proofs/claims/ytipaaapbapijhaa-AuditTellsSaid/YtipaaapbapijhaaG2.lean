import Derived.Test.YtipaaapbapijhaaProg
import Derived.Test.YtipaaapbapijhaaFwEq
import Derived.Test.YtipaaapbapijhaaFwOpen
import Derived.Test.YtipaaapbapijhaaG0
namespace Go.Proofs.Ytipaaapbapijhaa.G
open Go Go.Fw Go.RowKit Go.Proofs
set_option linter.unusedVariables false
set_option linter.unusedSimpArgs false

/-! ### confidant/confidantref21.AuditRight: function 32 -/
def confidantref21_AuditRight.l1 (K : Nat) (a0 : Int) (a1 : List S69) (b6 : Int → Option Bool) : Nat → Int → Int → Option Bool
 | 0, _, _ => none
 | n + 1, a6, a5 => if a5 < a0 then (lt (fun (b5 : Int) => (confidantref21_AuditRight.l1 K a0 a1 b6 n b5 (IntKind.i64.wrap (a5 + 1)))) fun c4 => (if 0 ≤ a5 then (if a5 < (a1.length : Int) then (if ((a1.getD a5.toNat zS69).f2) = ((a1.getD a0.toNat zS69).f2) then (c4 (IntKind.i64.wrap (a6 + 1))) else (c4 a6)) else none) else none)) else (b6 a6)
def confidantref21_AuditRight.l0 (K : Nat) (a1 : List S69) : Nat → Int → Option Bool
 | 0, _ => none
 | n + 1, a0 => if a0 < (a1.length : Int) then (lt (confidantref21_AuditRight.l0 K a1 n (IntKind.i64.wrap (a0 + 1))) fun d0 => (if 0 ≤ a0 then (lt (fun (b9 : Bool) => (if b9 = true then (some false) else (lt (fun (b1 : Int) => (if ((a1.getD a0.toNat zS69).f0) = b1 then (d0) else (some false))) fun b6 => (confidantref21_AuditRight.l1 K a0 a1 b6 K 0 0)))) fun a9 => (if ((a1.getD a0.toNat zS69).f4) < 0 then (a9 true) else (if a0 > 0 then (if 0 ≤ (IntKind.i64.wrap (a0 - 1)) then (if (IntKind.i64.wrap (a0 - 1)) < (a1.length : Int) then (if ((a1.getD a0.toNat zS69).f4) < ((a1.getD (IntKind.i64.wrap (a0 - 1)).toNat zS69).f4) then (a9 true) else (if ((a1.getD a0.toNat zS69).f1) < 0 then (a9 true) else (if ((a1.getD a0.toNat zS69).f2) < 0 then (a9 true) else (a9 (decide (((a1.getD a0.toNat zS69).f5) < 0)))))) else none) else none) else (if ((a1.getD a0.toNat zS69).f1) < 0 then (a9 true) else (if ((a1.getD a0.toNat zS69).f2) < 0 then (a9 true) else (a9 (decide (((a1.getD a0.toNat zS69).f5) < 0)))))))) else none)) else (some true)
def confidantref21_AuditRight.f (K : Nat) (a1 : List S69) : Option Bool := confidantref21_AuditRight.l0 K a1 K 0
set_option maxRecDepth 100000 in
theorem confidantref21_AuditRight.calls {K : Nat} {a1 : List S69} {a7 : Option Addr} {a4 : Nat} {b4 : Bool} {B w : World} {os : List Ass} {rs : List Ro} (H : confidantref21_AuditRight.f K a1 = some b4) (hS : St B w (os) (Ro.sl kS69 a7 a4 a1 :: rs)) :
  Calls Try.prog 32 [.slice a7 a1.length a4].toArray w (fun en w' => ∃ v, en = .returned v ∧ v = .bool (b4) ∧ St B w' (os) (Ro.sl kS69 a7 a4 a1 :: rs)) := by
 unfold confidantref21_AuditRight.f at H
 refine calls_of_EW (args := [.slice a7 a1.length a4]) (c := Cd32) 69 Try.func32 (by kernel_rfl) (by kernel_rfl) (by kernel_rfl) ?_
 refine EW.seq (x := Cd32.l) (y := Cd32.r) (by kernel_rfl) ?_
 refine EW.region (id := 0) (ops := Cd32.l.ops) (by kernel_rfl) ?_
 refine EL.quick 1 [0] [(0, .slice a7 a1.length a4)] (by kernel_rfl) ?_
 refine EL.done (by kernel_rfl) ?_
 refine EQ.code ?_
 refine EW.seq (x := Cd32.r.l) (y := Cd32.r.r) (by kernel_rfl) ?_
 refine EW.seq (x := Cd32.r.l.l) (y := Cd32.r.l.r) (by kernel_rfl) ?_
 refine EW.region (id := 1) (ops := Cd32.r.l.l.ops) (by kernel_rfl) ?_
 refine EL.quick 1 [0, 3] [(0, .slice a7 a1.length a4), (3, .int .i64 0)] (by kernel_rfl) ?_
 refine EL.done (by kernel_rfl) ?_
 refine EQ.code ?_
 refine EW.block (x := Cd32.r.l.r.l) (id := 0) (by kernel_rfl) ?_
 refine EW.loop (x := Cd32.r.l.r.l.l) (fun n a w => ∃ a0 : Int, Sat 69 [(0, .slice a7 a1.length a4), (3, .int .i64 a0)] a ∧ St B w (os) (Ro.sl kS69 a7 a4 a1 :: rs) ∧ confidantref21_AuditRight.l0 K a1 n a0 = some b4) K (by kernel_rfl) ?_ (fun n a w hI => ?_)
 ·refine EQ.keep [0, 3] [(0, .slice a7 a1.length a4), (3, .int .i64 0)] (by kernel_rfl) ?_
  exact fun a ha => ⟨0, ha, (hS.re [] [] rfl (sub_cons 0 rfl (sub_tail (sub_self)))), H⟩
 ·obtain ⟨a0, ha, hS, H⟩ := hI
  obtain _ | n := n
  ·simp [confidantref21_AuditRight.l0] at H
  rw [confidantref21_AuditRight.l0.eq_2] at H
  refine EW.at ?_ a ha
  clear ha a
  refine EW.seq (x := Cd32.r.l.r.l.l.l) (y := Cd32.r.l.r.l.l.r) (by kernel_rfl) ?_
  refine EW.seq (x := Cd32.r.l.r.l.l.l.l) (y := Cd32.r.l.r.l.l.l.r) (by kernel_rfl) ?_
  refine EW.region (id := 2) (ops := Cd32.r.l.r.l.l.l.l.ops) (by kernel_rfl) ?_
  refine EL.quick 4 [0, 3, 10] [(0, .slice a7 a1.length a4), (3, .int .i64 a0), (10, .bool (decide (a0 < (a1.length : Int))))] (by kernel_rfl) ?_
  refine EL.done (by kernel_rfl) ?_
  refine EQ.code ?_
  refine EW.condP (o := (.tmp 10)) (x := Cd32.r.l.r.l.l.l.r.l) (y := Cd32.r.l.r.l.l.l.r.r) (a0 < (a1.length : Int)) (by kernel_rfl) (by kernel_rfl) (fun b7 => ?_) (fun b7 => ?_)
  ·rw [if_pos b7] at H
   refine EW.skip (by kernel_rfl) ?_
   refine EQ.code ?_
   obtain ⟨d0, d4, H⟩ := lt_out H
   refine EW.cut (x := Cd32.r.l.r.l.l.r.l) (y := Cd32.r.l.r.l.l.r.r) (fun a w => ∃ d1 : Nat, Sat 69 [(0, .slice a7 a1.length a4), (3, .int .i64 a0)] a ∧ St B w (Ass.box 69 d1 [.int .i64 ((a1.getD a0.toNat zS69).f0), .int .i64 ((a1.getD a0.toNat zS69).f1), .int .i64 ((a1.getD a0.toNat zS69).f2), .int .i32 ((a1.getD a0.toNat zS69).f3), .int .i64 ((a1.getD a0.toNat zS69).f4), .int .i32 ((a1.getD a0.toNat zS69).f5)] :: os) (Ro.sl kS69 a7 a4 a1 :: rs) ∧ d0 = some b4) (by kernel_rfl) ?_ (fun a w hI => ?_)
   ·refine EW.block (x := Cd32.r.l.r.l.l.r.l.l) (id := 1) (by kernel_rfl) ?_
    refine EW.seq (x := Cd32.r.l.r.l.l.r.l.l.l) (y := Cd32.r.l.r.l.l.r.l.l.r) (by kernel_rfl) ?_
    refine EW.region (id := 4) (ops := Cd32.r.l.r.l.l.r.l.l.l.ops) (by kernel_rfl) ?_
    refine EL.quick 2 [0, 3, 13, 14] [(0, .slice a7 a1.length a4), (3, .int .i64 a0), (13, .slice a7 a1.length a4), (14, .int .i64 a0)] (by kernel_rfl) ?_
    obtain ⟨c5, H⟩ := ite_in H
    obtain ⟨a2, rfl⟩ := St.rd_some hS (Rd.ro 0 rfl) c5 b7
    refine EL.of (EO.Y (YO.idx 64 6 a2 a1.length a4 .i64 a0 15 (by kernel_rfl) (by kernel_rfl) (by kernel_rfl) (by kernel_rfl) c5 b7) ?_)
    refine EL.of (EO.Y (YO.loadEl hS kS69 a2 a4 a1 (Rd.ro 0 rfl) zS69 encS69 encS69_of a0 c5 b7 69 6 0 6 rfl (.agg #[.int .i64 ((a1.getD a0.toNat zS69).f0), .int .i64 ((a1.getD a0.toNat zS69).f1), .int .i64 ((a1.getD a0.toNat zS69).f2), .int .i32 ((a1.getD a0.toNat zS69).f3), .int .i64 ((a1.getD a0.toNat zS69).f4), .int .i32 ((a1.getD a0.toNat zS69).f5)]) 16 (by kernel_rfl) (by kernel_rfl) (by kernel_rfl) (by kernel_rfl)) ?_)
    refine EL.of (EO.alloc hS 69 (.agg #[.int .i64 0, .int .i64 0, .int .i64 0, .int .i32 0, .int .i64 0, .int .i32 0]) [.int .i64 0, .int .i64 0, .int .i64 0, .int .i32 0, .int .i64 0, .int .i32 0] 4 (by kernel_rfl) (by kernel_rfl) (by kernel_rfl) (by kernel_rfl) (by first | rfl | kernel_rfl) ?_)
    intro a3 w hS
    refine EL.of (EO.storeBox (os' := Ass.box 69 a3 [.int .i64 ((a1.getD a0.toNat zS69).f0), .int .i64 ((a1.getD a0.toNat zS69).f1), .int .i64 ((a1.getD a0.toNat zS69).f2), .int .i32 ((a1.getD a0.toNat zS69).f3), .int .i64 ((a1.getD a0.toNat zS69).f4), .int .i32 ((a1.getD a0.toNat zS69).f5)] :: os) hS 0 rfl 69 0 (.agg #[.int .i64 ((a1.getD a0.toNat zS69).f0), .int .i64 ((a1.getD a0.toNat zS69).f1), .int .i64 ((a1.getD a0.toNat zS69).f2), .int .i32 ((a1.getD a0.toNat zS69).f3), .int .i64 ((a1.getD a0.toNat zS69).f4), .int .i32 ((a1.getD a0.toNat zS69).f5)]) [.int .i64 ((a1.getD a0.toNat zS69).f0), .int .i64 ((a1.getD a0.toNat zS69).f1), .int .i64 ((a1.getD a0.toNat zS69).f2), .int .i32 ((a1.getD a0.toNat zS69).f3), .int .i64 ((a1.getD a0.toNat zS69).f4), .int .i32 ((a1.getD a0.toNat zS69).f5)] (by kernel_rfl) (by kernel_rfl) (by kernel_rfl) (by kernel_rfl) (by kernel_rfl) (by kernel_rfl) rfl rfl ?_)
    intro w hS
    refine EL.done (by kernel_rfl) ?_
    refine EQ.code ?_
    refine EW.seq (x := Cd32.r.l.r.l.l.r.l.l.r.l) (y := Cd32.r.l.r.l.l.r.l.l.r.r) (by kernel_rfl) ?_
    obtain ⟨a9, d5, H⟩ := lt_out H
    refine EW.cut (x := Cd32.r.l.r.l.l.r.l.l.r.l.l) (y := Cd32.r.l.r.l.l.r.l.l.r.l.r) (fun a w => ∃ b9 : Bool, Sat 69 [(0, .slice (some a2) a1.length a4), (3, .int .i64 a0), (4, .pointer (some ⟨a3, 0, none⟩)), (49, .bool (b9))] a ∧ St B w (Ass.box 69 a3 [.int .i64 ((a1.getD a0.toNat zS69).f0), .int .i64 ((a1.getD a0.toNat zS69).f1), .int .i64 ((a1.getD a0.toNat zS69).f2), .int .i32 ((a1.getD a0.toNat zS69).f3), .int .i64 ((a1.getD a0.toNat zS69).f4), .int .i32 ((a1.getD a0.toNat zS69).f5)] :: os) (Ro.sl kS69 (some a2) a4 a1 :: rs) ∧ a9 b9 = some b4) (by kernel_rfl) ?_ (fun a w hI => ?_)
    ·by_cases a8 : ((a1.getD a0.toNat zS69).f4) < 0
     ·rw [if_pos a8] at H
      have hS := hS.drew
      refine EW.draw (B := B) (id := 5) (ops := Cd32.r.l.r.l.l.r.l.l.r.l.l.ops) [Ass.box 69 a3 [.int .i64 ((a1.getD a0.toNat zS69).f0), .int .i64 ((a1.getD a0.toNat zS69).f1), .int .i64 ((a1.getD a0.toNat zS69).f2), .int .i32 ((a1.getD a0.toNat zS69).f3), .int .i64 ((a1.getD a0.toNat zS69).f4), .int .i32 ((a1.getD a0.toNat zS69).f5)]] [Ro.sl kS69 (some a2) a4 a1] (by kernel_rfl) (by kernel_rfl) ?_
      have hN : Region.noSelect Cd32.r.l.r.l.l.r.l.l.r.l.l.ops = true := (by kernel_rfl)
      have hF : freeAll Cd32.r.l.r.l.l.r.l.l.r.l.l.ops = true := (by kernel_rfl)
      have hC : Core B [Ass.box 69 a3 [.int .i64 ((a1.getD a0.toNat zS69).f0), .int .i64 ((a1.getD a0.toNat zS69).f1), .int .i64 ((a1.getD a0.toNat zS69).f2), .int .i32 ((a1.getD a0.toNat zS69).f3), .int .i64 ((a1.getD a0.toNat zS69).f4), .int .i32 ((a1.getD a0.toNat zS69).f5)]] [Ro.sl kS69 (some a2) a4 a1] _ := ⟨_, _, hS⟩
      refine ED.quick hN hF hC [0] [0, 3, 4, 17] 32 [(0, .slice (some a2) a1.length a4), (3, .int .i64 a0), (4, .pointer (some ⟨a3, 0, none⟩)), (17, .pointer (some ⟨a3, 4, none⟩))] #[true, false, false, false, false, false, false, false, false, false, false, false, false, false, false, false, false, false, false, false, false, false, false, false, false, false, false, false, false, false, false, false, false] (by kernel_rfl) (by kernel_rfl) ?_
      refine ED.Y hN hF hC 1 31 #[true, true, false, false, false, false, false, false, false, false, false, false, false, false, false, false, false, false, false, false, false, false, false, false, false, false, false, false, false, false, false, false, false] (by kernel_rfl) (by kernel_rfl) rfl (fun _ _ _ hS => YO.loadBox hS 0 rfl 3 4 1 (.int .i64 ((a1.getD a0.toNat zS69).f4)) 18 (by kernel_rfl) (by kernel_rfl) (by kernel_rfl) (by kernel_rfl)) ?_
      refine ED.quick hN hF hC [2, 3] [0, 3, 4, 20] 29 [(0, .slice (some a2) a1.length a4), (3, .int .i64 a0), (4, .pointer (some ⟨a3, 0, none⟩)), (20, .bool (decide (((a1.getD a0.toNat zS69).f4) < 0)))] #[true, true, true, true, false, false, false, false, false, false, false, false, false, false, false, false, false, false, false, false, false, false, false, false, false, false, false, false, false, false, false, false, false] (by kernel_rfl) (by kernel_rfl) ?_
      refine ED.keep [0, 3, 4, 20] [(0, .slice (some a2) a1.length a4), (3, .int .i64 a0), (4, .pointer (some ⟨a3, 0, none⟩)), (20, .bool (decide (((a1.getD a0.toNat zS69).f4) < 0)))] (by kernel_rfl) ?_
      refine ED.as' [(0, .slice (some a2) a1.length a4), (3, .int .i64 a0), (4, .pointer (some ⟨a3, 0, none⟩)), (20, .bool (true))] (by simp only [dec_t a8, Bool.not_true, Bool.not_false]) ?_
      refine ED.quick hN hF hC [4, 5, 6, 7, 8, 9, 10, 11, 12, 13, 14, 15, 16, 17, 18, 19, 20, 21, 22, 23, 24, 25, 26, 27, 28, 29, 30, 31, 32] [0, 3, 4, 21, 22, 23, 24, 25, 26, 27, 28, 29, 30, 31, 32, 33, 36, 37, 38, 41, 42, 43, 46, 47, 48, 49] 0 [(0, .slice (some a2) a1.length a4), (3, .int .i64 a0), (4, .pointer (some ⟨a3, 0, none⟩)), (21, undef), (22, undef), (23, undef), (24, undef), (25, undef), (26, undef), (27, undef), (28, undef), (29, undef), (30, undef), (31, undef), (32, undef), (33, undef), (36, undef), (37, undef), (38, undef), (41, undef), (42, undef), (43, undef), (46, undef), (47, undef), (48, undef), (49, .bool (true))] #[true, true, true, true, true, true, true, true, true, true, true, true, true, true, true, true, true, true, true, true, true, true, true, true, true, true, true, true, true, true, true, true, true] (by kernel_rfl) (by kernel_rfl) ?_
      refine ED.done (by kernel_rfl) ?_
      refine EQ.to ?_
      refine EQ.keep [0, 3, 4, 49] [(0, .slice (some a2) a1.length a4), (3, .int .i64 a0), (4, .pointer (some ⟨a3, 0, none⟩)), (49, .bool (true))] (by kernel_rfl) ?_
      exact fun a ha => ⟨true, ha, (hS.re [0] [] rfl (sub_cons 0 rfl (sub_tail (sub_self)))), H⟩
     ·rw [if_neg a8] at H
      by_cases b0 : a0 > 0
      ·rw [if_pos b0] at H
       obtain ⟨b2, H⟩ := ite_in H
       obtain ⟨b3, H⟩ := ite_in H
       by_cases b8 : ((a1.getD a0.toNat zS69).f4) < ((a1.getD (IntKind.i64.wrap (a0 - 1)).toNat zS69).f4)
       ·rw [if_pos b8] at H
        have hS := hS.drew
        refine EW.draw (B := B) (id := 5) (ops := Cd32.r.l.r.l.l.r.l.l.r.l.l.ops) [Ass.box 69 a3 [.int .i64 ((a1.getD a0.toNat zS69).f0), .int .i64 ((a1.getD a0.toNat zS69).f1), .int .i64 ((a1.getD a0.toNat zS69).f2), .int .i32 ((a1.getD a0.toNat zS69).f3), .int .i64 ((a1.getD a0.toNat zS69).f4), .int .i32 ((a1.getD a0.toNat zS69).f5)]] [Ro.sl kS69 (some a2) a4 a1] (by kernel_rfl) (by kernel_rfl) ?_
        have hN : Region.noSelect Cd32.r.l.r.l.l.r.l.l.r.l.l.ops = true := (by kernel_rfl)
        have hF : freeAll Cd32.r.l.r.l.l.r.l.l.r.l.l.ops = true := (by kernel_rfl)
        have hC : Core B [Ass.box 69 a3 [.int .i64 ((a1.getD a0.toNat zS69).f0), .int .i64 ((a1.getD a0.toNat zS69).f1), .int .i64 ((a1.getD a0.toNat zS69).f2), .int .i32 ((a1.getD a0.toNat zS69).f3), .int .i64 ((a1.getD a0.toNat zS69).f4), .int .i32 ((a1.getD a0.toNat zS69).f5)]] [Ro.sl kS69 (some a2) a4 a1] _ := ⟨_, _, hS⟩
        refine ED.quick hN hF hC [0] [0, 3, 4, 17] 32 [(0, .slice (some a2) a1.length a4), (3, .int .i64 a0), (4, .pointer (some ⟨a3, 0, none⟩)), (17, .pointer (some ⟨a3, 4, none⟩))] #[true, false, false, false, false, false, false, false, false, false, false, false, false, false, false, false, false, false, false, false, false, false, false, false, false, false, false, false, false, false, false, false, false] (by kernel_rfl) (by kernel_rfl) ?_
        refine ED.Y hN hF hC 1 31 #[true, true, false, false, false, false, false, false, false, false, false, false, false, false, false, false, false, false, false, false, false, false, false, false, false, false, false, false, false, false, false, false, false] (by kernel_rfl) (by kernel_rfl) rfl (fun _ _ _ hS => YO.loadBox hS 0 rfl 3 4 1 (.int .i64 ((a1.getD a0.toNat zS69).f4)) 18 (by kernel_rfl) (by kernel_rfl) (by kernel_rfl) (by kernel_rfl)) ?_
        refine ED.quick hN hF hC [2, 3] [0, 3, 4, 20] 29 [(0, .slice (some a2) a1.length a4), (3, .int .i64 a0), (4, .pointer (some ⟨a3, 0, none⟩)), (20, .bool (decide (((a1.getD a0.toNat zS69).f4) < 0)))] #[true, true, true, true, false, false, false, false, false, false, false, false, false, false, false, false, false, false, false, false, false, false, false, false, false, false, false, false, false, false, false, false, false] (by kernel_rfl) (by kernel_rfl) ?_
        refine ED.keep [0, 3, 4, 20] [(0, .slice (some a2) a1.length a4), (3, .int .i64 a0), (4, .pointer (some ⟨a3, 0, none⟩)), (20, .bool (decide (((a1.getD a0.toNat zS69).f4) < 0)))] (by kernel_rfl) ?_
        refine ED.as' [(0, .slice (some a2) a1.length a4), (3, .int .i64 a0), (4, .pointer (some ⟨a3, 0, none⟩)), (20, .bool (false))] (by simp only [dec_f a8, Bool.not_true, Bool.not_false]) ?_
        refine ED.quick hN hF hC [4, 5, 6] [0, 3, 4, 20, 21, 22, 23] 26 [(0, .slice (some a2) a1.length a4), (3, .int .i64 a0), (4, .pointer (some ⟨a3, 0, none⟩)), (20, .bool (false)), (21, .int .i64 a0), (22, .bool (decide (a0 > 0))), (23, .bool (decide (a0 > 0)))] #[true, true, true, true, true, true, true, false, false, false, false, false, false, false, false, false, false, false, false, false, false, false, false, false, false, false, false, false, false, false, false, false, false] (by kernel_rfl) (by kernel_rfl) ?_
        refine ED.keep [0, 3, 4, 20, 21, 22, 23] [(0, .slice (some a2) a1.length a4), (3, .int .i64 a0), (4, .pointer (some ⟨a3, 0, none⟩)), (20, .bool (false)), (21, .int .i64 a0), (22, .bool (decide (a0 > 0))), (23, .bool (decide (a0 > 0)))] (by kernel_rfl) ?_
        refine ED.as' [(0, .slice (some a2) a1.length a4), (3, .int .i64 a0), (4, .pointer (some ⟨a3, 0, none⟩)), (20, .bool (false)), (21, .int .i64 a0), (22, .bool (true)), (23, .bool (true))] (by simp only [dec_t b0, Bool.not_true, Bool.not_false]) ?_
        refine ED.quick hN hF hC [7, 9, 10, 11] [0, 3, 4, 20, 21, 22, 23, 24, 26, 27, 28] 22 [(0, .slice (some a2) a1.length a4), (3, .int .i64 a0), (4, .pointer (some ⟨a3, 0, none⟩)), (20, .bool (false)), (21, .int .i64 a0), (22, .bool (true)), (23, .bool (true)), (24, .pointer (some ⟨a3, 4, none⟩)), (26, .slice (some a2) a1.length a4), (27, .int .i64 a0), (28, .int .i64 (IntKind.i64.wrap (a0 - 1)))] #[true, true, true, true, true, true, true, true, false, true, true, true, false, false, false, false, false, false, false, false, false, false, false, false, false, false, false, false, false, false, false, false, false] (by kernel_rfl) (by kernel_rfl) ?_
        refine ED.Y hN hF hC 8 21 #[true, true, true, true, true, true, true, true, true, true, true, true, false, false, false, false, false, false, false, false, false, false, false, false, false, false, false, false, false, false, false, false, false] (by kernel_rfl) (by kernel_rfl) rfl (fun _ _ _ hS => YO.loadBox hS 0 rfl 3 4 1 (.int .i64 ((a1.getD a0.toNat zS69).f4)) 25 (by kernel_rfl) (by kernel_rfl) (by kernel_rfl) (by kernel_rfl)) ?_
        refine ED.Y hN hF hC 12 20 #[true, true, true, true, true, true, true, true, true, true, true, true, true, false, false, false, false, false, false, false, false, false, false, false, false, false, false, false, false, false, false, false, false] (by kernel_rfl) (by kernel_rfl) rfl (fun _ _ _ hS => YO.idx 64 6 a2 a1.length a4 .i64 (IntKind.i64.wrap (a0 - 1)) 29 (by kernel_rfl) (by kernel_rfl) (by kernel_rfl) (by kernel_rfl) b2 b3) ?_
        refine ED.quick hN hF hC [13] [0, 3, 4, 20, 21, 22, 23, 24, 25, 26, 27, 28, 29, 30] 19 [(0, .slice (some a2) a1.length a4), (3, .int .i64 a0), (4, .pointer (some ⟨a3, 0, none⟩)), (20, .bool (false)), (21, .int .i64 a0), (22, .bool (true)), (23, .bool (true)), (24, .pointer (some ⟨a3, 4, none⟩)), (25, .int .i64 ((a1.getD a0.toNat zS69).f4)), (26, .slice (some a2) a1.length a4), (27, .int .i64 a0), (28, .int .i64 (IntKind.i64.wrap (a0 - 1))), (29, .pointer (some ((a2.add ((IntKind.i64.wrap (a0 - 1)).toNat * 6)).add 0))), (30, .pointer (some ((a2.add ((IntKind.i64.wrap (a0 - 1)).toNat * 6)).add 4)))] #[true, true, true, true, true, true, true, true, true, true, true, true, true, true, false, false, false, false, false, false, false, false, false, false, false, false, false, false, false, false, false, false, false] (by kernel_rfl) (by kernel_rfl) ?_
        refine ED.Y hN hF hC 14 18 #[true, true, true, true, true, true, true, true, true, true, true, true, true, true, true, false, false, false, false, false, false, false, false, false, false, false, false, false, false, false, false, false, false] (by kernel_rfl) (by kernel_rfl) rfl (fun _ _ _ hS => YO.loadEl hS kS69 a2 a4 a1 (Rd.ro 0 rfl) zS69 encS69 encS69_of (IntKind.i64.wrap (a0 - 1)) b2 b3 3 6 4 1 rfl (.int .i64 ((a1.getD (IntKind.i64.wrap (a0 - 1)).toNat zS69).f4)) 31 (by kernel_rfl) (by kernel_rfl) (by kernel_rfl) (by kernel_rfl)) ?_
        refine ED.quick hN hF hC [15, 16, 17, 18] [0, 3, 4, 21, 22, 23, 24, 25, 26, 27, 28, 29, 30, 31, 32, 33, 35] 14 [(0, .slice (some a2) a1.length a4), (3, .int .i64 a0), (4, .pointer (some ⟨a3, 0, none⟩)), (21, .int .i64 a0), (22, .bool (true)), (23, .bool (true)), (24, .pointer (some ⟨a3, 4, none⟩)), (25, .int .i64 ((a1.getD a0.toNat zS69).f4)), (26, .slice (some a2) a1.length a4), (27, .int .i64 a0), (28, .int .i64 (IntKind.i64.wrap (a0 - 1))), (29, .pointer (some ((a2.add ((IntKind.i64.wrap (a0 - 1)).toNat * 6)).add 0))), (30, .pointer (some ((a2.add ((IntKind.i64.wrap (a0 - 1)).toNat * 6)).add 4))), (31, .int .i64 ((a1.getD (IntKind.i64.wrap (a0 - 1)).toNat zS69).f4)), (32, .bool (decide (((a1.getD a0.toNat zS69).f4) < ((a1.getD (IntKind.i64.wrap (a0 - 1)).toNat zS69).f4)))), (33, .bool (decide (((a1.getD a0.toNat zS69).f4) < ((a1.getD (IntKind.i64.wrap (a0 - 1)).toNat zS69).f4)))), (35, .bool (decide (((a1.getD a0.toNat zS69).f4) < ((a1.getD (IntKind.i64.wrap (a0 - 1)).toNat zS69).f4))))] #[true, true, true, true, true, true, true, true, true, true, true, true, true, true, true, true, true, true, true, false, false, false, false, false, false, false, false, false, false, false, false, false, false] (by kernel_rfl) (by kernel_rfl) ?_
        refine ED.keep [0, 3, 4, 21, 22, 23, 24, 25, 26, 27, 28, 29, 30, 31, 32, 33, 35] [(0, .slice (some a2) a1.length a4), (3, .int .i64 a0), (4, .pointer (some ⟨a3, 0, none⟩)), (21, .int .i64 a0), (22, .bool (true)), (23, .bool (true)), (24, .pointer (some ⟨a3, 4, none⟩)), (25, .int .i64 ((a1.getD a0.toNat zS69).f4)), (26, .slice (some a2) a1.length a4), (27, .int .i64 a0), (28, .int .i64 (IntKind.i64.wrap (a0 - 1))), (29, .pointer (some ((a2.add ((IntKind.i64.wrap (a0 - 1)).toNat * 6)).add 0))), (30, .pointer (some ((a2.add ((IntKind.i64.wrap (a0 - 1)).toNat * 6)).add 4))), (31, .int .i64 ((a1.getD (IntKind.i64.wrap (a0 - 1)).toNat zS69).f4)), (32, .bool (decide (((a1.getD a0.toNat zS69).f4) < ((a1.getD (IntKind.i64.wrap (a0 - 1)).toNat zS69).f4)))), (33, .bool (decide (((a1.getD a0.toNat zS69).f4) < ((a1.getD (IntKind.i64.wrap (a0 - 1)).toNat zS69).f4)))), (35, .bool (decide (((a1.getD a0.toNat zS69).f4) < ((a1.getD (IntKind.i64.wrap (a0 - 1)).toNat zS69).f4))))] (by kernel_rfl) ?_
        refine ED.as' [(0, .slice (some a2) a1.length a4), (3, .int .i64 a0), (4, .pointer (some ⟨a3, 0, none⟩)), (21, .int .i64 a0), (22, .bool (true)), (23, .bool (true)), (24, .pointer (some ⟨a3, 4, none⟩)), (25, .int .i64 ((a1.getD a0.toNat zS69).f4)), (26, .slice (some a2) a1.length a4), (27, .int .i64 a0), (28, .int .i64 (IntKind.i64.wrap (a0 - 1))), (29, .pointer (some ((a2.add ((IntKind.i64.wrap (a0 - 1)).toNat * 6)).add 0))), (30, .pointer (some ((a2.add ((IntKind.i64.wrap (a0 - 1)).toNat * 6)).add 4))), (31, .int .i64 ((a1.getD (IntKind.i64.wrap (a0 - 1)).toNat zS69).f4)), (32, .bool (true)), (33, .bool (true)), (35, .bool (true))] (by simp only [dec_t b8, Bool.not_true, Bool.not_false]) ?_
        refine ED.quick hN hF hC [19, 20, 21, 22, 23, 24, 25, 26, 27, 28, 29, 30, 31, 32] [0, 3, 4, 21, 22, 23, 24, 25, 26, 27, 28, 29, 30, 31, 32, 33, 36, 37, 38, 41, 42, 43, 46, 47, 48, 49] 0 [(0, .slice (some a2) a1.length a4), (3, .int .i64 a0), (4, .pointer (some ⟨a3, 0, none⟩)), (21, .int .i64 a0), (22, .bool (true)), (23, .bool (true)), (24, .pointer (some ⟨a3, 4, none⟩)), (25, .int .i64 ((a1.getD a0.toNat zS69).f4)), (26, .slice (some a2) a1.length a4), (27, .int .i64 a0), (28, .int .i64 (IntKind.i64.wrap (a0 - 1))), (29, .pointer (some ((a2.add ((IntKind.i64.wrap (a0 - 1)).toNat * 6)).add 0))), (30, .pointer (some ((a2.add ((IntKind.i64.wrap (a0 - 1)).toNat * 6)).add 4))), (31, .int .i64 ((a1.getD (IntKind.i64.wrap (a0 - 1)).toNat zS69).f4)), (32, .bool (true)), (33, .bool (true)), (36, undef), (37, undef), (38, undef), (41, undef), (42, undef), (43, undef), (46, undef), (47, undef), (48, undef), (49, .bool (true))] #[true, true, true, true, true, true, true, true, true, true, true, true, true, true, true, true, true, true, true, true, true, true, true, true, true, true, true, true, true, true, true, true, true] (by kernel_rfl) (by kernel_rfl) ?_
        refine ED.done (by kernel_rfl) ?_
        refine EQ.to ?_
        refine EQ.keep [0, 3, 4, 49] [(0, .slice (some a2) a1.length a4), (3, .int .i64 a0), (4, .pointer (some ⟨a3, 0, none⟩)), (49, .bool (true))] (by kernel_rfl) ?_
        exact fun a ha => ⟨true, ha, (hS.re [0] [] rfl (sub_cons 0 rfl (sub_tail (sub_self)))), H⟩
       ·rw [if_neg b8] at H
        by_cases c0 : ((a1.getD a0.toNat zS69).f1) < 0
        ·rw [if_pos c0] at H
         have hS := hS.drew
         refine EW.draw (B := B) (id := 5) (ops := Cd32.r.l.r.l.l.r.l.l.r.l.l.ops) [Ass.box 69 a3 [.int .i64 ((a1.getD a0.toNat zS69).f0), .int .i64 ((a1.getD a0.toNat zS69).f1), .int .i64 ((a1.getD a0.toNat zS69).f2), .int .i32 ((a1.getD a0.toNat zS69).f3), .int .i64 ((a1.getD a0.toNat zS69).f4), .int .i32 ((a1.getD a0.toNat zS69).f5)]] [Ro.sl kS69 (some a2) a4 a1] (by kernel_rfl) (by kernel_rfl) ?_
         have hN : Region.noSelect Cd32.r.l.r.l.l.r.l.l.r.l.l.ops = true := (by kernel_rfl)
         have hF : freeAll Cd32.r.l.r.l.l.r.l.l.r.l.l.ops = true := (by kernel_rfl)
         have hC : Core B [Ass.box 69 a3 [.int .i64 ((a1.getD a0.toNat zS69).f0), .int .i64 ((a1.getD a0.toNat zS69).f1), .int .i64 ((a1.getD a0.toNat zS69).f2), .int .i32 ((a1.getD a0.toNat zS69).f3), .int .i64 ((a1.getD a0.toNat zS69).f4), .int .i32 ((a1.getD a0.toNat zS69).f5)]] [Ro.sl kS69 (some a2) a4 a1] _ := ⟨_, _, hS⟩
         refine ED.quick hN hF hC [0] [0, 3, 4, 17] 32 [(0, .slice (some a2) a1.length a4), (3, .int .i64 a0), (4, .pointer (some ⟨a3, 0, none⟩)), (17, .pointer (some ⟨a3, 4, none⟩))] #[true, false, false, false, false, false, false, false, false, false, false, false, false, false, false, false, false, false, false, false, false, false, false, false, false, false, false, false, false, false, false, false, false] (by kernel_rfl) (by kernel_rfl) ?_
         refine ED.Y hN hF hC 1 31 #[true, true, false, false, false, false, false, false, false, false, false, false, false, false, false, false, false, false, false, false, false, false, false, false, false, false, false, false, false, false, false, false, false] (by kernel_rfl) (by kernel_rfl) rfl (fun _ _ _ hS => YO.loadBox hS 0 rfl 3 4 1 (.int .i64 ((a1.getD a0.toNat zS69).f4)) 18 (by kernel_rfl) (by kernel_rfl) (by kernel_rfl) (by kernel_rfl)) ?_
         refine ED.quick hN hF hC [2, 3] [0, 3, 4, 20] 29 [(0, .slice (some a2) a1.length a4), (3, .int .i64 a0), (4, .pointer (some ⟨a3, 0, none⟩)), (20, .bool (decide (((a1.getD a0.toNat zS69).f4) < 0)))] #[true, true, true, true, false, false, false, false, false, false, false, false, false, false, false, false, false, false, false, false, false, false, false, false, false, false, false, false, false, false, false, false, false] (by kernel_rfl) (by kernel_rfl) ?_
         refine ED.keep [0, 3, 4, 20] [(0, .slice (some a2) a1.length a4), (3, .int .i64 a0), (4, .pointer (some ⟨a3, 0, none⟩)), (20, .bool (decide (((a1.getD a0.toNat zS69).f4) < 0)))] (by kernel_rfl) ?_
         refine ED.as' [(0, .slice (some a2) a1.length a4), (3, .int .i64 a0), (4, .pointer (some ⟨a3, 0, none⟩)), (20, .bool (false))] (by simp only [dec_f a8, Bool.not_true, Bool.not_false]) ?_
         refine ED.quick hN hF hC [4, 5, 6] [0, 3, 4, 20, 21, 22, 23] 26 [(0, .slice (some a2) a1.length a4), (3, .int .i64 a0), (4, .pointer (some ⟨a3, 0, none⟩)), (20, .bool (false)), (21, .int .i64 a0), (22, .bool (decide (a0 > 0))), (23, .bool (decide (a0 > 0)))] #[true, true, true, true, true, true, true, false, false, false, false, false, false, false, false, false, false, false, false, false, false, false, false, false, false, false, false, false, false, false, false, false, false] (by kernel_rfl) (by kernel_rfl) ?_
         refine ED.keep [0, 3, 4, 20, 21, 22, 23] [(0, .slice (some a2) a1.length a4), (3, .int .i64 a0), (4, .pointer (some ⟨a3, 0, none⟩)), (20, .bool (false)), (21, .int .i64 a0), (22, .bool (decide (a0 > 0))), (23, .bool (decide (a0 > 0)))] (by kernel_rfl) ?_
         refine ED.as' [(0, .slice (some a2) a1.length a4), (3, .int .i64 a0), (4, .pointer (some ⟨a3, 0, none⟩)), (20, .bool (false)), (21, .int .i64 a0), (22, .bool (true)), (23, .bool (true))] (by simp only [dec_t b0, Bool.not_true, Bool.not_false]) ?_
         refine ED.quick hN hF hC [7, 9, 10, 11] [0, 3, 4, 20, 21, 22, 23, 24, 26, 27, 28] 22 [(0, .slice (some a2) a1.length a4), (3, .int .i64 a0), (4, .pointer (some ⟨a3, 0, none⟩)), (20, .bool (false)), (21, .int .i64 a0), (22, .bool (true)), (23, .bool (true)), (24, .pointer (some ⟨a3, 4, none⟩)), (26, .slice (some a2) a1.length a4), (27, .int .i64 a0), (28, .int .i64 (IntKind.i64.wrap (a0 - 1)))] #[true, true, true, true, true, true, true, true, false, true, true, true, false, false, false, false, false, false, false, false, false, false, false, false, false, false, false, false, false, false, false, false, false] (by kernel_rfl) (by kernel_rfl) ?_
         refine ED.Y hN hF hC 8 21 #[true, true, true, true, true, true, true, true, true, true, true, true, false, false, false, false, false, false, false, false, false, false, false, false, false, false, false, false, false, false, false, false, false] (by kernel_rfl) (by kernel_rfl) rfl (fun _ _ _ hS => YO.loadBox hS 0 rfl 3 4 1 (.int .i64 ((a1.getD a0.toNat zS69).f4)) 25 (by kernel_rfl) (by kernel_rfl) (by kernel_rfl) (by kernel_rfl)) ?_
         refine ED.Y hN hF hC 12 20 #[true, true, true, true, true, true, true, true, true, true, true, true, true, false, false, false, false, false, false, false, false, false, false, false, false, false, false, false, false, false, false, false, false] (by kernel_rfl) (by kernel_rfl) rfl (fun _ _ _ hS => YO.idx 64 6 a2 a1.length a4 .i64 (IntKind.i64.wrap (a0 - 1)) 29 (by kernel_rfl) (by kernel_rfl) (by kernel_rfl) (by kernel_rfl) b2 b3) ?_
         refine ED.quick hN hF hC [13] [0, 3, 4, 20, 21, 22, 23, 24, 25, 26, 27, 28, 29, 30] 19 [(0, .slice (some a2) a1.length a4), (3, .int .i64 a0), (4, .pointer (some ⟨a3, 0, none⟩)), (20, .bool (false)), (21, .int .i64 a0), (22, .bool (true)), (23, .bool (true)), (24, .pointer (some ⟨a3, 4, none⟩)), (25, .int .i64 ((a1.getD a0.toNat zS69).f4)), (26, .slice (some a2) a1.length a4), (27, .int .i64 a0), (28, .int .i64 (IntKind.i64.wrap (a0 - 1))), (29, .pointer (some ((a2.add ((IntKind.i64.wrap (a0 - 1)).toNat * 6)).add 0))), (30, .pointer (some ((a2.add ((IntKind.i64.wrap (a0 - 1)).toNat * 6)).add 4)))] #[true, true, true, true, true, true, true, true, true, true, true, true, true, true, false, false, false, false, false, false, false, false, false, false, false, false, false, false, false, false, false, false, false] (by kernel_rfl) (by kernel_rfl) ?_
         refine ED.Y hN hF hC 14 18 #[true, true, true, true, true, true, true, true, true, true, true, true, true, true, true, false, false, false, false, false, false, false, false, false, false, false, false, false, false, false, false, false, false] (by kernel_rfl) (by kernel_rfl) rfl (fun _ _ _ hS => YO.loadEl hS kS69 a2 a4 a1 (Rd.ro 0 rfl) zS69 encS69 encS69_of (IntKind.i64.wrap (a0 - 1)) b2 b3 3 6 4 1 rfl (.int .i64 ((a1.getD (IntKind.i64.wrap (a0 - 1)).toNat zS69).f4)) 31 (by kernel_rfl) (by kernel_rfl) (by kernel_rfl) (by kernel_rfl)) ?_
         refine ED.quick hN hF hC [15, 16, 17, 18] [0, 3, 4, 21, 22, 23, 24, 25, 26, 27, 28, 29, 30, 31, 32, 33, 35] 14 [(0, .slice (some a2) a1.length a4), (3, .int .i64 a0), (4, .pointer (some ⟨a3, 0, none⟩)), (21, .int .i64 a0), (22, .bool (true)), (23, .bool (true)), (24, .pointer (some ⟨a3, 4, none⟩)), (25, .int .i64 ((a1.getD a0.toNat zS69).f4)), (26, .slice (some a2) a1.length a4), (27, .int .i64 a0), (28, .int .i64 (IntKind.i64.wrap (a0 - 1))), (29, .pointer (some ((a2.add ((IntKind.i64.wrap (a0 - 1)).toNat * 6)).add 0))), (30, .pointer (some ((a2.add ((IntKind.i64.wrap (a0 - 1)).toNat * 6)).add 4))), (31, .int .i64 ((a1.getD (IntKind.i64.wrap (a0 - 1)).toNat zS69).f4)), (32, .bool (decide (((a1.getD a0.toNat zS69).f4) < ((a1.getD (IntKind.i64.wrap (a0 - 1)).toNat zS69).f4)))), (33, .bool (decide (((a1.getD a0.toNat zS69).f4) < ((a1.getD (IntKind.i64.wrap (a0 - 1)).toNat zS69).f4)))), (35, .bool (decide (((a1.getD a0.toNat zS69).f4) < ((a1.getD (IntKind.i64.wrap (a0 - 1)).toNat zS69).f4))))] #[true, true, true, true, true, true, true, true, true, true, true, true, true, true, true, true, true, true, true, false, false, false, false, false, false, false, false, false, false, false, false, false, false] (by kernel_rfl) (by kernel_rfl) ?_
         refine ED.keep [0, 3, 4, 21, 22, 23, 24, 25, 26, 27, 28, 29, 30, 31, 32, 33, 35] [(0, .slice (some a2) a1.length a4), (3, .int .i64 a0), (4, .pointer (some ⟨a3, 0, none⟩)), (21, .int .i64 a0), (22, .bool (true)), (23, .bool (true)), (24, .pointer (some ⟨a3, 4, none⟩)), (25, .int .i64 ((a1.getD a0.toNat zS69).f4)), (26, .slice (some a2) a1.length a4), (27, .int .i64 a0), (28, .int .i64 (IntKind.i64.wrap (a0 - 1))), (29, .pointer (some ((a2.add ((IntKind.i64.wrap (a0 - 1)).toNat * 6)).add 0))), (30, .pointer (some ((a2.add ((IntKind.i64.wrap (a0 - 1)).toNat * 6)).add 4))), (31, .int .i64 ((a1.getD (IntKind.i64.wrap (a0 - 1)).toNat zS69).f4)), (32, .bool (decide (((a1.getD a0.toNat zS69).f4) < ((a1.getD (IntKind.i64.wrap (a0 - 1)).toNat zS69).f4)))), (33, .bool (decide (((a1.getD a0.toNat zS69).f4) < ((a1.getD (IntKind.i64.wrap (a0 - 1)).toNat zS69).f4)))), (35, .bool (decide (((a1.getD a0.toNat zS69).f4) < ((a1.getD (IntKind.i64.wrap (a0 - 1)).toNat zS69).f4))))] (by kernel_rfl) ?_
         refine ED.as' [(0, .slice (some a2) a1.length a4), (3, .int .i64 a0), (4, .pointer (some ⟨a3, 0, none⟩)), (21, .int .i64 a0), (22, .bool (true)), (23, .bool (true)), (24, .pointer (some ⟨a3, 4, none⟩)), (25, .int .i64 ((a1.getD a0.toNat zS69).f4)), (26, .slice (some a2) a1.length a4), (27, .int .i64 a0), (28, .int .i64 (IntKind.i64.wrap (a0 - 1))), (29, .pointer (some ((a2.add ((IntKind.i64.wrap (a0 - 1)).toNat * 6)).add 0))), (30, .pointer (some ((a2.add ((IntKind.i64.wrap (a0 - 1)).toNat * 6)).add 4))), (31, .int .i64 ((a1.getD (IntKind.i64.wrap (a0 - 1)).toNat zS69).f4)), (32, .bool (false)), (33, .bool (false)), (35, .bool (false))] (by simp only [dec_f b8, Bool.not_true, Bool.not_false]) ?_
         refine ED.quick hN hF hC [19] [0, 3, 4, 21, 22, 23, 24, 25, 26, 27, 28, 29, 30, 31, 32, 33, 35, 36] 13 [(0, .slice (some a2) a1.length a4), (3, .int .i64 a0), (4, .pointer (some ⟨a3, 0, none⟩)), (21, .int .i64 a0), (22, .bool (true)), (23, .bool (true)), (24, .pointer (some ⟨a3, 4, none⟩)), (25, .int .i64 ((a1.getD a0.toNat zS69).f4)), (26, .slice (some a2) a1.length a4), (27, .int .i64 a0), (28, .int .i64 (IntKind.i64.wrap (a0 - 1))), (29, .pointer (some ((a2.add ((IntKind.i64.wrap (a0 - 1)).toNat * 6)).add 0))), (30, .pointer (some ((a2.add ((IntKind.i64.wrap (a0 - 1)).toNat * 6)).add 4))), (31, .int .i64 ((a1.getD (IntKind.i64.wrap (a0 - 1)).toNat zS69).f4)), (32, .bool (false)), (33, .bool (false)), (35, .bool (false)), (36, .pointer (some ⟨a3, 1, none⟩))] #[true, true, true, true, true, true, true, true, true, true, true, true, true, true, true, true, true, true, true, true, false, false, false, false, false, false, false, false, false, false, false, false, false] (by kernel_rfl) (by kernel_rfl) ?_
         refine ED.Y hN hF hC 20 12 #[true, true, true, true, true, true, true, true, true, true, true, true, true, true, true, true, true, true, true, true, true, false, false, false, false, false, false, false, false, false, false, false, false] (by kernel_rfl) (by kernel_rfl) rfl (fun _ _ _ hS => YO.loadBox hS 0 rfl 3 1 1 (.int .i64 ((a1.getD a0.toNat zS69).f1)) 37 (by kernel_rfl) (by kernel_rfl) (by kernel_rfl) (by kernel_rfl)) ?_
         refine ED.quick hN hF hC [21, 22, 23] [0, 3, 4, 21, 22, 23, 24, 25, 26, 27, 28, 29, 30, 31, 32, 33, 36, 37, 38, 40] 9 [(0, .slice (some a2) a1.length a4), (3, .int .i64 a0), (4, .pointer (some ⟨a3, 0, none⟩)), (21, .int .i64 a0), (22, .bool (true)), (23, .bool (true)), (24, .pointer (some ⟨a3, 4, none⟩)), (25, .int .i64 ((a1.getD a0.toNat zS69).f4)), (26, .slice (some a2) a1.length a4), (27, .int .i64 a0), (28, .int .i64 (IntKind.i64.wrap (a0 - 1))), (29, .pointer (some ((a2.add ((IntKind.i64.wrap (a0 - 1)).toNat * 6)).add 0))), (30, .pointer (some ((a2.add ((IntKind.i64.wrap (a0 - 1)).toNat * 6)).add 4))), (31, .int .i64 ((a1.getD (IntKind.i64.wrap (a0 - 1)).toNat zS69).f4)), (32, .bool (false)), (33, .bool (false)), (36, .pointer (some ⟨a3, 1, none⟩)), (37, .int .i64 ((a1.getD a0.toNat zS69).f1)), (38, .bool (decide (((a1.getD a0.toNat zS69).f1) < 0))), (40, .bool (decide (((a1.getD a0.toNat zS69).f1) < 0)))] #[true, true, true, true, true, true, true, true, true, true, true, true, true, true, true, true, true, true, true, true, true, true, true, true, false, false, false, false, false, false, false, false, false] (by kernel_rfl) (by kernel_rfl) ?_
         refine ED.keep [0, 3, 4, 21, 22, 23, 24, 25, 26, 27, 28, 29, 30, 31, 32, 33, 36, 37, 38, 40] [(0, .slice (some a2) a1.length a4), (3, .int .i64 a0), (4, .pointer (some ⟨a3, 0, none⟩)), (21, .int .i64 a0), (22, .bool (true)), (23, .bool (true)), (24, .pointer (some ⟨a3, 4, none⟩)), (25, .int .i64 ((a1.getD a0.toNat zS69).f4)), (26, .slice (some a2) a1.length a4), (27, .int .i64 a0), (28, .int .i64 (IntKind.i64.wrap (a0 - 1))), (29, .pointer (some ((a2.add ((IntKind.i64.wrap (a0 - 1)).toNat * 6)).add 0))), (30, .pointer (some ((a2.add ((IntKind.i64.wrap (a0 - 1)).toNat * 6)).add 4))), (31, .int .i64 ((a1.getD (IntKind.i64.wrap (a0 - 1)).toNat zS69).f4)), (32, .bool (false)), (33, .bool (false)), (36, .pointer (some ⟨a3, 1, none⟩)), (37, .int .i64 ((a1.getD a0.toNat zS69).f1)), (38, .bool (decide (((a1.getD a0.toNat zS69).f1) < 0))), (40, .bool (decide (((a1.getD a0.toNat zS69).f1) < 0)))] (by kernel_rfl) ?_
         refine ED.as' [(0, .slice (some a2) a1.length a4), (3, .int .i64 a0), (4, .pointer (some ⟨a3, 0, none⟩)), (21, .int .i64 a0), (22, .bool (true)), (23, .bool (true)), (24, .pointer (some ⟨a3, 4, none⟩)), (25, .int .i64 ((a1.getD a0.toNat zS69).f4)), (26, .slice (some a2) a1.length a4), (27, .int .i64 a0), (28, .int .i64 (IntKind.i64.wrap (a0 - 1))), (29, .pointer (some ((a2.add ((IntKind.i64.wrap (a0 - 1)).toNat * 6)).add 0))), (30, .pointer (some ((a2.add ((IntKind.i64.wrap (a0 - 1)).toNat * 6)).add 4))), (31, .int .i64 ((a1.getD (IntKind.i64.wrap (a0 - 1)).toNat zS69).f4)), (32, .bool (false)), (33, .bool (false)), (36, .pointer (some ⟨a3, 1, none⟩)), (37, .int .i64 ((a1.getD a0.toNat zS69).f1)), (38, .bool (true)), (40, .bool (true))] (by simp only [dec_t c0, Bool.not_true, Bool.not_false]) ?_
         refine ED.quick hN hF hC [24, 25, 26, 27, 28, 29, 30, 31, 32] [0, 3, 4, 21, 22, 23, 24, 25, 26, 27, 28, 29, 30, 31, 32, 33, 36, 37, 38, 41, 42, 43, 46, 47, 48, 49] 0 [(0, .slice (some a2) a1.length a4), (3, .int .i64 a0), (4, .pointer (some ⟨a3, 0, none⟩)), (21, .int .i64 a0), (22, .bool (true)), (23, .bool (true)), (24, .pointer (some ⟨a3, 4, none⟩)), (25, .int .i64 ((a1.getD a0.toNat zS69).f4)), (26, .slice (some a2) a1.length a4), (27, .int .i64 a0), (28, .int .i64 (IntKind.i64.wrap (a0 - 1))), (29, .pointer (some ((a2.add ((IntKind.i64.wrap (a0 - 1)).toNat * 6)).add 0))), (30, .pointer (some ((a2.add ((IntKind.i64.wrap (a0 - 1)).toNat * 6)).add 4))), (31, .int .i64 ((a1.getD (IntKind.i64.wrap (a0 - 1)).toNat zS69).f4)), (32, .bool (false)), (33, .bool (false)), (36, .pointer (some ⟨a3, 1, none⟩)), (37, .int .i64 ((a1.getD a0.toNat zS69).f1)), (38, .bool (true)), (41, undef), (42, undef), (43, undef), (46, undef), (47, undef), (48, undef), (49, .bool (true))] #[true, true, true, true, true, true, true, true, true, true, true, true, true, true, true, true, true, true, true, true, true, true, true, true, true, true, true, true, true, true, true, true, true] (by kernel_rfl) (by kernel_rfl) ?_
         refine ED.done (by kernel_rfl) ?_
         refine EQ.to ?_
         refine EQ.keep [0, 3, 4, 49] [(0, .slice (some a2) a1.length a4), (3, .int .i64 a0), (4, .pointer (some ⟨a3, 0, none⟩)), (49, .bool (true))] (by kernel_rfl) ?_
         exact fun a ha => ⟨true, ha, (hS.re [0] [] rfl (sub_cons 0 rfl (sub_tail (sub_self)))), H⟩
        ·rw [if_neg c0] at H
         by_cases c2 : ((a1.getD a0.toNat zS69).f2) < 0
         ·rw [if_pos c2] at H
          have hS := hS.drew
          refine EW.draw (B := B) (id := 5) (ops := Cd32.r.l.r.l.l.r.l.l.r.l.l.ops) [Ass.box 69 a3 [.int .i64 ((a1.getD a0.toNat zS69).f0), .int .i64 ((a1.getD a0.toNat zS69).f1), .int .i64 ((a1.getD a0.toNat zS69).f2), .int .i32 ((a1.getD a0.toNat zS69).f3), .int .i64 ((a1.getD a0.toNat zS69).f4), .int .i32 ((a1.getD a0.toNat zS69).f5)]] [Ro.sl kS69 (some a2) a4 a1] (by kernel_rfl) (by kernel_rfl) ?_
          have hN : Region.noSelect Cd32.r.l.r.l.l.r.l.l.r.l.l.ops = true := (by kernel_rfl)
          have hF : freeAll Cd32.r.l.r.l.l.r.l.l.r.l.l.ops = true := (by kernel_rfl)
          have hC : Core B [Ass.box 69 a3 [.int .i64 ((a1.getD a0.toNat zS69).f0), .int .i64 ((a1.getD a0.toNat zS69).f1), .int .i64 ((a1.getD a0.toNat zS69).f2), .int .i32 ((a1.getD a0.toNat zS69).f3), .int .i64 ((a1.getD a0.toNat zS69).f4), .int .i32 ((a1.getD a0.toNat zS69).f5)]] [Ro.sl kS69 (some a2) a4 a1] _ := ⟨_, _, hS⟩
          refine ED.quick hN hF hC [0] [0, 3, 4, 17] 32 [(0, .slice (some a2) a1.length a4), (3, .int .i64 a0), (4, .pointer (some ⟨a3, 0, none⟩)), (17, .pointer (some ⟨a3, 4, none⟩))] #[true, false, false, false, false, false, false, false, false, false, false, false, false, false, false, false, false, false, false, false, false, false, false, false, false, false, false, false, false, false, false, false, false] (by kernel_rfl) (by kernel_rfl) ?_
          refine ED.Y hN hF hC 1 31 #[true, true, false, false, false, false, false, false, false, false, false, false, false, false, false, false, false, false, false, false, false, false, false, false, false, false, false, false, false, false, false, false, false] (by kernel_rfl) (by kernel_rfl) rfl (fun _ _ _ hS => YO.loadBox hS 0 rfl 3 4 1 (.int .i64 ((a1.getD a0.toNat zS69).f4)) 18 (by kernel_rfl) (by kernel_rfl) (by kernel_rfl) (by kernel_rfl)) ?_
          refine ED.quick hN hF hC [2, 3] [0, 3, 4, 20] 29 [(0, .slice (some a2) a1.length a4), (3, .int .i64 a0), (4, .pointer (some ⟨a3, 0, none⟩)), (20, .bool (decide (((a1.getD a0.toNat zS69).f4) < 0)))] #[true, true, true, true, false, false, false, false, false, false, false, false, false, false, false, false, false, false, false, false, false, false, false, false, false, false, false, false, false, false, false, false, false] (by kernel_rfl) (by kernel_rfl) ?_
          refine ED.keep [0, 3, 4, 20] [(0, .slice (some a2) a1.length a4), (3, .int .i64 a0), (4, .pointer (some ⟨a3, 0, none⟩)), (20, .bool (decide (((a1.getD a0.toNat zS69).f4) < 0)))] (by kernel_rfl) ?_
          refine ED.as' [(0, .slice (some a2) a1.length a4), (3, .int .i64 a0), (4, .pointer (some ⟨a3, 0, none⟩)), (20, .bool (false))] (by simp only [dec_f a8, Bool.not_true, Bool.not_false]) ?_
          refine ED.quick hN hF hC [4, 5, 6] [0, 3, 4, 20, 21, 22, 23] 26 [(0, .slice (some a2) a1.length a4), (3, .int .i64 a0), (4, .pointer (some ⟨a3, 0, none⟩)), (20, .bool (false)), (21, .int .i64 a0), (22, .bool (decide (a0 > 0))), (23, .bool (decide (a0 > 0)))] #[true, true, true, true, true, true, true, false, false, false, false, false, false, false, false, false, false, false, false, false, false, false, false, false, false, false, false, false, false, false, false, false, false] (by kernel_rfl) (by kernel_rfl) ?_
          refine ED.keep [0, 3, 4, 20, 21, 22, 23] [(0, .slice (some a2) a1.length a4), (3, .int .i64 a0), (4, .pointer (some ⟨a3, 0, none⟩)), (20, .bool (false)), (21, .int .i64 a0), (22, .bool (decide (a0 > 0))), (23, .bool (decide (a0 > 0)))] (by kernel_rfl) ?_
          refine ED.as' [(0, .slice (some a2) a1.length a4), (3, .int .i64 a0), (4, .pointer (some ⟨a3, 0, none⟩)), (20, .bool (false)), (21, .int .i64 a0), (22, .bool (true)), (23, .bool (true))] (by simp only [dec_t b0, Bool.not_true, Bool.not_false]) ?_
          refine ED.quick hN hF hC [7, 9, 10, 11] [0, 3, 4, 20, 21, 22, 23, 24, 26, 27, 28] 22 [(0, .slice (some a2) a1.length a4), (3, .int .i64 a0), (4, .pointer (some ⟨a3, 0, none⟩)), (20, .bool (false)), (21, .int .i64 a0), (22, .bool (true)), (23, .bool (true)), (24, .pointer (some ⟨a3, 4, none⟩)), (26, .slice (some a2) a1.length a4), (27, .int .i64 a0), (28, .int .i64 (IntKind.i64.wrap (a0 - 1)))] #[true, true, true, true, true, true, true, true, false, true, true, true, false, false, false, false, false, false, false, false, false, false, false, false, false, false, false, false, false, false, false, false, false] (by kernel_rfl) (by kernel_rfl) ?_
          refine ED.Y hN hF hC 8 21 #[true, true, true, true, true, true, true, true, true, true, true, true, false, false, false, false, false, false, false, false, false, false, false, false, false, false, false, false, false, false, false, false, false] (by kernel_rfl) (by kernel_rfl) rfl (fun _ _ _ hS => YO.loadBox hS 0 rfl 3 4 1 (.int .i64 ((a1.getD a0.toNat zS69).f4)) 25 (by kernel_rfl) (by kernel_rfl) (by kernel_rfl) (by kernel_rfl)) ?_
          refine ED.Y hN hF hC 12 20 #[true, true, true, true, true, true, true, true, true, true, true, true, true, false, false, false, false, false, false, false, false, false, false, false, false, false, false, false, false, false, false, false, false] (by kernel_rfl) (by kernel_rfl) rfl (fun _ _ _ hS => YO.idx 64 6 a2 a1.length a4 .i64 (IntKind.i64.wrap (a0 - 1)) 29 (by kernel_rfl) (by kernel_rfl) (by kernel_rfl) (by kernel_rfl) b2 b3) ?_
          refine ED.quick hN hF hC [13] [0, 3, 4, 20, 21, 22, 23, 24, 25, 26, 27, 28, 29, 30] 19 [(0, .slice (some a2) a1.length a4), (3, .int .i64 a0), (4, .pointer (some ⟨a3, 0, none⟩)), (20, .bool (false)), (21, .int .i64 a0), (22, .bool (true)), (23, .bool (true)), (24, .pointer (some ⟨a3, 4, none⟩)), (25, .int .i64 ((a1.getD a0.toNat zS69).f4)), (26, .slice (some a2) a1.length a4), (27, .int .i64 a0), (28, .int .i64 (IntKind.i64.wrap (a0 - 1))), (29, .pointer (some ((a2.add ((IntKind.i64.wrap (a0 - 1)).toNat * 6)).add 0))), (30, .pointer (some ((a2.add ((IntKind.i64.wrap (a0 - 1)).toNat * 6)).add 4)))] #[true, true, true, true, true, true, true, true, true, true, true, true, true, true, false, false, false, false, false, false, false, false, false, false, false, false, false, false, false, false, false, false, false] (by kernel_rfl) (by kernel_rfl) ?_
          refine ED.Y hN hF hC 14 18 #[true, true, true, true, true, true, true, true, true, true, true, true, true, true, true, false, false, false, false, false, false, false, false, false, false, false, false, false, false, false, false, false, false] (by kernel_rfl) (by kernel_rfl) rfl (fun _ _ _ hS => YO.loadEl hS kS69 a2 a4 a1 (Rd.ro 0 rfl) zS69 encS69 encS69_of (IntKind.i64.wrap (a0 - 1)) b2 b3 3 6 4 1 rfl (.int .i64 ((a1.getD (IntKind.i64.wrap (a0 - 1)).toNat zS69).f4)) 31 (by kernel_rfl) (by kernel_rfl) (by kernel_rfl) (by kernel_rfl)) ?_
          refine ED.quick hN hF hC [15, 16, 17, 18] [0, 3, 4, 21, 22, 23, 24, 25, 26, 27, 28, 29, 30, 31, 32, 33, 35] 14 [(0, .slice (some a2) a1.length a4), (3, .int .i64 a0), (4, .pointer (some ⟨a3, 0, none⟩)), (21, .int .i64 a0), (22, .bool (true)), (23, .bool (true)), (24, .pointer (some ⟨a3, 4, none⟩)), (25, .int .i64 ((a1.getD a0.toNat zS69).f4)), (26, .slice (some a2) a1.length a4), (27, .int .i64 a0), (28, .int .i64 (IntKind.i64.wrap (a0 - 1))), (29, .pointer (some ((a2.add ((IntKind.i64.wrap (a0 - 1)).toNat * 6)).add 0))), (30, .pointer (some ((a2.add ((IntKind.i64.wrap (a0 - 1)).toNat * 6)).add 4))), (31, .int .i64 ((a1.getD (IntKind.i64.wrap (a0 - 1)).toNat zS69).f4)), (32, .bool (decide (((a1.getD a0.toNat zS69).f4) < ((a1.getD (IntKind.i64.wrap (a0 - 1)).toNat zS69).f4)))), (33, .bool (decide (((a1.getD a0.toNat zS69).f4) < ((a1.getD (IntKind.i64.wrap (a0 - 1)).toNat zS69).f4)))), (35, .bool (decide (((a1.getD a0.toNat zS69).f4) < ((a1.getD (IntKind.i64.wrap (a0 - 1)).toNat zS69).f4))))] #[true, true, true, true, true, true, true, true, true, true, true, true, true, true, true, true, true, true, true, false, false, false, false, false, false, false, false, false, false, false, false, false, false] (by kernel_rfl) (by kernel_rfl) ?_
          refine ED.keep [0, 3, 4, 21, 22, 23, 24, 25, 26, 27, 28, 29, 30, 31, 32, 33, 35] [(0, .slice (some a2) a1.length a4), (3, .int .i64 a0), (4, .pointer (some ⟨a3, 0, none⟩)), (21, .int .i64 a0), (22, .bool (true)), (23, .bool (true)), (24, .pointer (some ⟨a3, 4, none⟩)), (25, .int .i64 ((a1.getD a0.toNat zS69).f4)), (26, .slice (some a2) a1.length a4), (27, .int .i64 a0), (28, .int .i64 (IntKind.i64.wrap (a0 - 1))), (29, .pointer (some ((a2.add ((IntKind.i64.wrap (a0 - 1)).toNat * 6)).add 0))), (30, .pointer (some ((a2.add ((IntKind.i64.wrap (a0 - 1)).toNat * 6)).add 4))), (31, .int .i64 ((a1.getD (IntKind.i64.wrap (a0 - 1)).toNat zS69).f4)), (32, .bool (decide (((a1.getD a0.toNat zS69).f4) < ((a1.getD (IntKind.i64.wrap (a0 - 1)).toNat zS69).f4)))), (33, .bool (decide (((a1.getD a0.toNat zS69).f4) < ((a1.getD (IntKind.i64.wrap (a0 - 1)).toNat zS69).f4)))), (35, .bool (decide (((a1.getD a0.toNat zS69).f4) < ((a1.getD (IntKind.i64.wrap (a0 - 1)).toNat zS69).f4))))] (by kernel_rfl) ?_
          refine ED.as' [(0, .slice (some a2) a1.length a4), (3, .int .i64 a0), (4, .pointer (some ⟨a3, 0, none⟩)), (21, .int .i64 a0), (22, .bool (true)), (23, .bool (true)), (24, .pointer (some ⟨a3, 4, none⟩)), (25, .int .i64 ((a1.getD a0.toNat zS69).f4)), (26, .slice (some a2) a1.length a4), (27, .int .i64 a0), (28, .int .i64 (IntKind.i64.wrap (a0 - 1))), (29, .pointer (some ((a2.add ((IntKind.i64.wrap (a0 - 1)).toNat * 6)).add 0))), (30, .pointer (some ((a2.add ((IntKind.i64.wrap (a0 - 1)).toNat * 6)).add 4))), (31, .int .i64 ((a1.getD (IntKind.i64.wrap (a0 - 1)).toNat zS69).f4)), (32, .bool (false)), (33, .bool (false)), (35, .bool (false))] (by simp only [dec_f b8, Bool.not_true, Bool.not_false]) ?_
          refine ED.quick hN hF hC [19] [0, 3, 4, 21, 22, 23, 24, 25, 26, 27, 28, 29, 30, 31, 32, 33, 35, 36] 13 [(0, .slice (some a2) a1.length a4), (3, .int .i64 a0), (4, .pointer (some ⟨a3, 0, none⟩)), (21, .int .i64 a0), (22, .bool (true)), (23, .bool (true)), (24, .pointer (some ⟨a3, 4, none⟩)), (25, .int .i64 ((a1.getD a0.toNat zS69).f4)), (26, .slice (some a2) a1.length a4), (27, .int .i64 a0), (28, .int .i64 (IntKind.i64.wrap (a0 - 1))), (29, .pointer (some ((a2.add ((IntKind.i64.wrap (a0 - 1)).toNat * 6)).add 0))), (30, .pointer (some ((a2.add ((IntKind.i64.wrap (a0 - 1)).toNat * 6)).add 4))), (31, .int .i64 ((a1.getD (IntKind.i64.wrap (a0 - 1)).toNat zS69).f4)), (32, .bool (false)), (33, .bool (false)), (35, .bool (false)), (36, .pointer (some ⟨a3, 1, none⟩))] #[true, true, true, true, true, true, true, true, true, true, true, true, true, true, true, true, true, true, true, true, false, false, false, false, false, false, false, false, false, false, false, false, false] (by kernel_rfl) (by kernel_rfl) ?_
          refine ED.Y hN hF hC 20 12 #[true, true, true, true, true, true, true, true, true, true, true, true, true, true, true, true, true, true, true, true, true, false, false, false, false, false, false, false, false, false, false, false, false] (by kernel_rfl) (by kernel_rfl) rfl (fun _ _ _ hS => YO.loadBox hS 0 rfl 3 1 1 (.int .i64 ((a1.getD a0.toNat zS69).f1)) 37 (by kernel_rfl) (by kernel_rfl) (by kernel_rfl) (by kernel_rfl)) ?_
          refine ED.quick hN hF hC [21, 22, 23] [0, 3, 4, 21, 22, 23, 24, 25, 26, 27, 28, 29, 30, 31, 32, 33, 36, 37, 38, 40] 9 [(0, .slice (some a2) a1.length a4), (3, .int .i64 a0), (4, .pointer (some ⟨a3, 0, none⟩)), (21, .int .i64 a0), (22, .bool (true)), (23, .bool (true)), (24, .pointer (some ⟨a3, 4, none⟩)), (25, .int .i64 ((a1.getD a0.toNat zS69).f4)), (26, .slice (some a2) a1.length a4), (27, .int .i64 a0), (28, .int .i64 (IntKind.i64.wrap (a0 - 1))), (29, .pointer (some ((a2.add ((IntKind.i64.wrap (a0 - 1)).toNat * 6)).add 0))), (30, .pointer (some ((a2.add ((IntKind.i64.wrap (a0 - 1)).toNat * 6)).add 4))), (31, .int .i64 ((a1.getD (IntKind.i64.wrap (a0 - 1)).toNat zS69).f4)), (32, .bool (false)), (33, .bool (false)), (36, .pointer (some ⟨a3, 1, none⟩)), (37, .int .i64 ((a1.getD a0.toNat zS69).f1)), (38, .bool (decide (((a1.getD a0.toNat zS69).f1) < 0))), (40, .bool (decide (((a1.getD a0.toNat zS69).f1) < 0)))] #[true, true, true, true, true, true, true, true, true, true, true, true, true, true, true, true, true, true, true, true, true, true, true, true, false, false, false, false, false, false, false, false, false] (by kernel_rfl) (by kernel_rfl) ?_
          refine ED.keep [0, 3, 4, 21, 22, 23, 24, 25, 26, 27, 28, 29, 30, 31, 32, 33, 36, 37, 38, 40] [(0, .slice (some a2) a1.length a4), (3, .int .i64 a0), (4, .pointer (some ⟨a3, 0, none⟩)), (21, .int .i64 a0), (22, .bool (true)), (23, .bool (true)), (24, .pointer (some ⟨a3, 4, none⟩)), (25, .int .i64 ((a1.getD a0.toNat zS69).f4)), (26, .slice (some a2) a1.length a4), (27, .int .i64 a0), (28, .int .i64 (IntKind.i64.wrap (a0 - 1))), (29, .pointer (some ((a2.add ((IntKind.i64.wrap (a0 - 1)).toNat * 6)).add 0))), (30, .pointer (some ((a2.add ((IntKind.i64.wrap (a0 - 1)).toNat * 6)).add 4))), (31, .int .i64 ((a1.getD (IntKind.i64.wrap (a0 - 1)).toNat zS69).f4)), (32, .bool (false)), (33, .bool (false)), (36, .pointer (some ⟨a3, 1, none⟩)), (37, .int .i64 ((a1.getD a0.toNat zS69).f1)), (38, .bool (decide (((a1.getD a0.toNat zS69).f1) < 0))), (40, .bool (decide (((a1.getD a0.toNat zS69).f1) < 0)))] (by kernel_rfl) ?_
          refine ED.as' [(0, .slice (some a2) a1.length a4), (3, .int .i64 a0), (4, .pointer (some ⟨a3, 0, none⟩)), (21, .int .i64 a0), (22, .bool (true)), (23, .bool (true)), (24, .pointer (some ⟨a3, 4, none⟩)), (25, .int .i64 ((a1.getD a0.toNat zS69).f4)), (26, .slice (some a2) a1.length a4), (27, .int .i64 a0), (28, .int .i64 (IntKind.i64.wrap (a0 - 1))), (29, .pointer (some ((a2.add ((IntKind.i64.wrap (a0 - 1)).toNat * 6)).add 0))), (30, .pointer (some ((a2.add ((IntKind.i64.wrap (a0 - 1)).toNat * 6)).add 4))), (31, .int .i64 ((a1.getD (IntKind.i64.wrap (a0 - 1)).toNat zS69).f4)), (32, .bool (false)), (33, .bool (false)), (36, .pointer (some ⟨a3, 1, none⟩)), (37, .int .i64 ((a1.getD a0.toNat zS69).f1)), (38, .bool (false)), (40, .bool (false))] (by simp only [dec_f c0, Bool.not_true, Bool.not_false]) ?_
          refine ED.quick hN hF hC [24] [0, 3, 4, 21, 22, 23, 24, 25, 26, 27, 28, 29, 30, 31, 32, 33, 36, 37, 38, 40, 41] 8 [(0, .slice (some a2) a1.length a4), (3, .int .i64 a0), (4, .pointer (some ⟨a3, 0, none⟩)), (21, .int .i64 a0), (22, .bool (true)), (23, .bool (true)), (24, .pointer (some ⟨a3, 4, none⟩)), (25, .int .i64 ((a1.getD a0.toNat zS69).f4)), (26, .slice (some a2) a1.length a4), (27, .int .i64 a0), (28, .int .i64 (IntKind.i64.wrap (a0 - 1))), (29, .pointer (some ((a2.add ((IntKind.i64.wrap (a0 - 1)).toNat * 6)).add 0))), (30, .pointer (some ((a2.add ((IntKind.i64.wrap (a0 - 1)).toNat * 6)).add 4))), (31, .int .i64 ((a1.getD (IntKind.i64.wrap (a0 - 1)).toNat zS69).f4)), (32, .bool (false)), (33, .bool (false)), (36, .pointer (some ⟨a3, 1, none⟩)), (37, .int .i64 ((a1.getD a0.toNat zS69).f1)), (38, .bool (false)), (40, .bool (false)), (41, .pointer (some ⟨a3, 2, none⟩))] #[true, true, true, true, true, true, true, true, true, true, true, true, true, true, true, true, true, true, true, true, true, true, true, true, true, false, false, false, false, false, false, false, false] (by kernel_rfl) (by kernel_rfl) ?_
          refine ED.Y hN hF hC 25 7 #[true, true, true, true, true, true, true, true, true, true, true, true, true, true, true, true, true, true, true, true, true, true, true, true, true, true, false, false, false, false, false, false, false] (by kernel_rfl) (by kernel_rfl) rfl (fun _ _ _ hS => YO.loadBox hS 0 rfl 3 2 1 (.int .i64 ((a1.getD a0.toNat zS69).f2)) 42 (by kernel_rfl) (by kernel_rfl) (by kernel_rfl) (by kernel_rfl)) ?_
          refine ED.quick hN hF hC [26, 27, 28] [0, 3, 4, 21, 22, 23, 24, 25, 26, 27, 28, 29, 30, 31, 32, 33, 36, 37, 38, 41, 42, 43, 45] 4 [(0, .slice (some a2) a1.length a4), (3, .int .i64 a0), (4, .pointer (some ⟨a3, 0, none⟩)), (21, .int .i64 a0), (22, .bool (true)), (23, .bool (true)), (24, .pointer (some ⟨a3, 4, none⟩)), (25, .int .i64 ((a1.getD a0.toNat zS69).f4)), (26, .slice (some a2) a1.length a4), (27, .int .i64 a0), (28, .int .i64 (IntKind.i64.wrap (a0 - 1))), (29, .pointer (some ((a2.add ((IntKind.i64.wrap (a0 - 1)).toNat * 6)).add 0))), (30, .pointer (some ((a2.add ((IntKind.i64.wrap (a0 - 1)).toNat * 6)).add 4))), (31, .int .i64 ((a1.getD (IntKind.i64.wrap (a0 - 1)).toNat zS69).f4)), (32, .bool (false)), (33, .bool (false)), (36, .pointer (some ⟨a3, 1, none⟩)), (37, .int .i64 ((a1.getD a0.toNat zS69).f1)), (38, .bool (false)), (41, .pointer (some ⟨a3, 2, none⟩)), (42, .int .i64 ((a1.getD a0.toNat zS69).f2)), (43, .bool (decide (((a1.getD a0.toNat zS69).f2) < 0))), (45, .bool (decide (((a1.getD a0.toNat zS69).f2) < 0)))] #[true, true, true, true, true, true, true, true, true, true, true, true, true, true, true, true, true, true, true, true, true, true, true, true, true, true, true, true, true, false, false, false, false] (by kernel_rfl) (by kernel_rfl) ?_
          refine ED.keep [0, 3, 4, 21, 22, 23, 24, 25, 26, 27, 28, 29, 30, 31, 32, 33, 36, 37, 38, 41, 42, 43, 45] [(0, .slice (some a2) a1.length a4), (3, .int .i64 a0), (4, .pointer (some ⟨a3, 0, none⟩)), (21, .int .i64 a0), (22, .bool (true)), (23, .bool (true)), (24, .pointer (some ⟨a3, 4, none⟩)), (25, .int .i64 ((a1.getD a0.toNat zS69).f4)), (26, .slice (some a2) a1.length a4), (27, .int .i64 a0), (28, .int .i64 (IntKind.i64.wrap (a0 - 1))), (29, .pointer (some ((a2.add ((IntKind.i64.wrap (a0 - 1)).toNat * 6)).add 0))), (30, .pointer (some ((a2.add ((IntKind.i64.wrap (a0 - 1)).toNat * 6)).add 4))), (31, .int .i64 ((a1.getD (IntKind.i64.wrap (a0 - 1)).toNat zS69).f4)), (32, .bool (false)), (33, .bool (false)), (36, .pointer (some ⟨a3, 1, none⟩)), (37, .int .i64 ((a1.getD a0.toNat zS69).f1)), (38, .bool (false)), (41, .pointer (some ⟨a3, 2, none⟩)), (42, .int .i64 ((a1.getD a0.toNat zS69).f2)), (43, .bool (decide (((a1.getD a0.toNat zS69).f2) < 0))), (45, .bool (decide (((a1.getD a0.toNat zS69).f2) < 0)))] (by kernel_rfl) ?_
          refine ED.as' [(0, .slice (some a2) a1.length a4), (3, .int .i64 a0), (4, .pointer (some ⟨a3, 0, none⟩)), (21, .int .i64 a0), (22, .bool (true)), (23, .bool (true)), (24, .pointer (some ⟨a3, 4, none⟩)), (25, .int .i64 ((a1.getD a0.toNat zS69).f4)), (26, .slice (some a2) a1.length a4), (27, .int .i64 a0), (28, .int .i64 (IntKind.i64.wrap (a0 - 1))), (29, .pointer (some ((a2.add ((IntKind.i64.wrap (a0 - 1)).toNat * 6)).add 0))), (30, .pointer (some ((a2.add ((IntKind.i64.wrap (a0 - 1)).toNat * 6)).add 4))), (31, .int .i64 ((a1.getD (IntKind.i64.wrap (a0 - 1)).toNat zS69).f4)), (32, .bool (false)), (33, .bool (false)), (36, .pointer (some ⟨a3, 1, none⟩)), (37, .int .i64 ((a1.getD a0.toNat zS69).f1)), (38, .bool (false)), (41, .pointer (some ⟨a3, 2, none⟩)), (42, .int .i64 ((a1.getD a0.toNat zS69).f2)), (43, .bool (true)), (45, .bool (true))] (by simp only [dec_t c2, Bool.not_true, Bool.not_false]) ?_
          refine ED.quick hN hF hC [29, 30, 31, 32] [0, 3, 4, 21, 22, 23, 24, 25, 26, 27, 28, 29, 30, 31, 32, 33, 36, 37, 38, 41, 42, 43, 46, 47, 48, 49] 0 [(0, .slice (some a2) a1.length a4), (3, .int .i64 a0), (4, .pointer (some ⟨a3, 0, none⟩)), (21, .int .i64 a0), (22, .bool (true)), (23, .bool (true)), (24, .pointer (some ⟨a3, 4, none⟩)), (25, .int .i64 ((a1.getD a0.toNat zS69).f4)), (26, .slice (some a2) a1.length a4), (27, .int .i64 a0), (28, .int .i64 (IntKind.i64.wrap (a0 - 1))), (29, .pointer (some ((a2.add ((IntKind.i64.wrap (a0 - 1)).toNat * 6)).add 0))), (30, .pointer (some ((a2.add ((IntKind.i64.wrap (a0 - 1)).toNat * 6)).add 4))), (31, .int .i64 ((a1.getD (IntKind.i64.wrap (a0 - 1)).toNat zS69).f4)), (32, .bool (false)), (33, .bool (false)), (36, .pointer (some ⟨a3, 1, none⟩)), (37, .int .i64 ((a1.getD a0.toNat zS69).f1)), (38, .bool (false)), (41, .pointer (some ⟨a3, 2, none⟩)), (42, .int .i64 ((a1.getD a0.toNat zS69).f2)), (43, .bool (true)), (46, undef), (47, undef), (48, undef), (49, .bool (true))] #[true, true, true, true, true, true, true, true, true, true, true, true, true, true, true, true, true, true, true, true, true, true, true, true, true, true, true, true, true, true, true, true, true] (by kernel_rfl) (by kernel_rfl) ?_
          refine ED.done (by kernel_rfl) ?_
          refine EQ.to ?_
          refine EQ.keep [0, 3, 4, 49] [(0, .slice (some a2) a1.length a4), (3, .int .i64 a0), (4, .pointer (some ⟨a3, 0, none⟩)), (49, .bool (true))] (by kernel_rfl) ?_
          exact fun a ha => ⟨true, ha, (hS.re [0] [] rfl (sub_cons 0 rfl (sub_tail (sub_self)))), H⟩
         ·rw [if_neg c2] at H
          have hS := hS.drew
          refine EW.draw (B := B) (id := 5) (ops := Cd32.r.l.r.l.l.r.l.l.r.l.l.ops) [Ass.box 69 a3 [.int .i64 ((a1.getD a0.toNat zS69).f0), .int .i64 ((a1.getD a0.toNat zS69).f1), .int .i64 ((a1.getD a0.toNat zS69).f2), .int .i32 ((a1.getD a0.toNat zS69).f3), .int .i64 ((a1.getD a0.toNat zS69).f4), .int .i32 ((a1.getD a0.toNat zS69).f5)]] [Ro.sl kS69 (some a2) a4 a1] (by kernel_rfl) (by kernel_rfl) ?_
          have hN : Region.noSelect Cd32.r.l.r.l.l.r.l.l.r.l.l.ops = true := (by kernel_rfl)
          have hF : freeAll Cd32.r.l.r.l.l.r.l.l.r.l.l.ops = true := (by kernel_rfl)
          have hC : Core B [Ass.box 69 a3 [.int .i64 ((a1.getD a0.toNat zS69).f0), .int .i64 ((a1.getD a0.toNat zS69).f1), .int .i64 ((a1.getD a0.toNat zS69).f2), .int .i32 ((a1.getD a0.toNat zS69).f3), .int .i64 ((a1.getD a0.toNat zS69).f4), .int .i32 ((a1.getD a0.toNat zS69).f5)]] [Ro.sl kS69 (some a2) a4 a1] _ := ⟨_, _, hS⟩
          refine ED.quick hN hF hC [0] [0, 3, 4, 17] 32 [(0, .slice (some a2) a1.length a4), (3, .int .i64 a0), (4, .pointer (some ⟨a3, 0, none⟩)), (17, .pointer (some ⟨a3, 4, none⟩))] #[true, false, false, false, false, false, false, false, false, false, false, false, false, false, false, false, false, false, false, false, false, false, false, false, false, false, false, false, false, false, false, false, false] (by kernel_rfl) (by kernel_rfl) ?_
          refine ED.Y hN hF hC 1 31 #[true, true, false, false, false, false, false, false, false, false, false, false, false, false, false, false, false, false, false, false, false, false, false, false, false, false, false, false, false, false, false, false, false] (by kernel_rfl) (by kernel_rfl) rfl (fun _ _ _ hS => YO.loadBox hS 0 rfl 3 4 1 (.int .i64 ((a1.getD a0.toNat zS69).f4)) 18 (by kernel_rfl) (by kernel_rfl) (by kernel_rfl) (by kernel_rfl)) ?_
          refine ED.quick hN hF hC [2, 3] [0, 3, 4, 20] 29 [(0, .slice (some a2) a1.length a4), (3, .int .i64 a0), (4, .pointer (some ⟨a3, 0, none⟩)), (20, .bool (decide (((a1.getD a0.toNat zS69).f4) < 0)))] #[true, true, true, true, false, false, false, false, false, false, false, false, false, false, false, false, false, false, false, false, false, false, false, false, false, false, false, false, false, false, false, false, false] (by kernel_rfl) (by kernel_rfl) ?_
          refine ED.keep [0, 3, 4, 20] [(0, .slice (some a2) a1.length a4), (3, .int .i64 a0), (4, .pointer (some ⟨a3, 0, none⟩)), (20, .bool (decide (((a1.getD a0.toNat zS69).f4) < 0)))] (by kernel_rfl) ?_
          refine ED.as' [(0, .slice (some a2) a1.length a4), (3, .int .i64 a0), (4, .pointer (some ⟨a3, 0, none⟩)), (20, .bool (false))] (by simp only [dec_f a8, Bool.not_true, Bool.not_false]) ?_
          refine ED.quick hN hF hC [4, 5, 6] [0, 3, 4, 20, 21, 22, 23] 26 [(0, .slice (some a2) a1.length a4), (3, .int .i64 a0), (4, .pointer (some ⟨a3, 0, none⟩)), (20, .bool (false)), (21, .int .i64 a0), (22, .bool (decide (a0 > 0))), (23, .bool (decide (a0 > 0)))] #[true, true, true, true, true, true, true, false, false, false, false, false, false, false, false, false, false, false, false, false, false, false, false, false, false, false, false, false, false, false, false, false, false] (by kernel_rfl) (by kernel_rfl) ?_
          refine ED.keep [0, 3, 4, 20, 21, 22, 23] [(0, .slice (some a2) a1.length a4), (3, .int .i64 a0), (4, .pointer (some ⟨a3, 0, none⟩)), (20, .bool (false)), (21, .int .i64 a0), (22, .bool (decide (a0 > 0))), (23, .bool (decide (a0 > 0)))] (by kernel_rfl) ?_
          refine ED.as' [(0, .slice (some a2) a1.length a4), (3, .int .i64 a0), (4, .pointer (some ⟨a3, 0, none⟩)), (20, .bool (false)), (21, .int .i64 a0), (22, .bool (true)), (23, .bool (true))] (by simp only [dec_t b0, Bool.not_true, Bool.not_false]) ?_
          refine ED.quick hN hF hC [7, 9, 10, 11] [0, 3, 4, 20, 21, 22, 23, 24, 26, 27, 28] 22 [(0, .slice (some a2) a1.length a4), (3, .int .i64 a0), (4, .pointer (some ⟨a3, 0, none⟩)), (20, .bool (false)), (21, .int .i64 a0), (22, .bool (true)), (23, .bool (true)), (24, .pointer (some ⟨a3, 4, none⟩)), (26, .slice (some a2) a1.length a4), (27, .int .i64 a0), (28, .int .i64 (IntKind.i64.wrap (a0 - 1)))] #[true, true, true, true, true, true, true, true, false, true, true, true, false, false, false, false, false, false, false, false, false, false, false, false, false, false, false, false, false, false, false, false, false] (by kernel_rfl) (by kernel_rfl) ?_
          refine ED.Y hN hF hC 8 21 #[true, true, true, true, true, true, true, true, true, true, true, true, false, false, false, false, false, false, false, false, false, false, false, false, false, false, false, false, false, false, false, false, false] (by kernel_rfl) (by kernel_rfl) rfl (fun _ _ _ hS => YO.loadBox hS 0 rfl 3 4 1 (.int .i64 ((a1.getD a0.toNat zS69).f4)) 25 (by kernel_rfl) (by kernel_rfl) (by kernel_rfl) (by kernel_rfl)) ?_
          refine ED.Y hN hF hC 12 20 #[true, true, true, true, true, true, true, true, true, true, true, true, true, false, false, false, false, false, false, false, false, false, false, false, false, false, false, false, false, false, false, false, false] (by kernel_rfl) (by kernel_rfl) rfl (fun _ _ _ hS => YO.idx 64 6 a2 a1.length a4 .i64 (IntKind.i64.wrap (a0 - 1)) 29 (by kernel_rfl) (by kernel_rfl) (by kernel_rfl) (by kernel_rfl) b2 b3) ?_
          refine ED.quick hN hF hC [13] [0, 3, 4, 20, 21, 22, 23, 24, 25, 26, 27, 28, 29, 30] 19 [(0, .slice (some a2) a1.length a4), (3, .int .i64 a0), (4, .pointer (some ⟨a3, 0, none⟩)), (20, .bool (false)), (21, .int .i64 a0), (22, .bool (true)), (23, .bool (true)), (24, .pointer (some ⟨a3, 4, none⟩)), (25, .int .i64 ((a1.getD a0.toNat zS69).f4)), (26, .slice (some a2) a1.length a4), (27, .int .i64 a0), (28, .int .i64 (IntKind.i64.wrap (a0 - 1))), (29, .pointer (some ((a2.add ((IntKind.i64.wrap (a0 - 1)).toNat * 6)).add 0))), (30, .pointer (some ((a2.add ((IntKind.i64.wrap (a0 - 1)).toNat * 6)).add 4)))] #[true, true, true, true, true, true, true, true, true, true, true, true, true, true, false, false, false, false, false, false, false, false, false, false, false, false, false, false, false, false, false, false, false] (by kernel_rfl) (by kernel_rfl) ?_
          refine ED.Y hN hF hC 14 18 #[true, true, true, true, true, true, true, true, true, true, true, true, true, true, true, false, false, false, false, false, false, false, false, false, false, false, false, false, false, false, false, false, false] (by kernel_rfl) (by kernel_rfl) rfl (fun _ _ _ hS => YO.loadEl hS kS69 a2 a4 a1 (Rd.ro 0 rfl) zS69 encS69 encS69_of (IntKind.i64.wrap (a0 - 1)) b2 b3 3 6 4 1 rfl (.int .i64 ((a1.getD (IntKind.i64.wrap (a0 - 1)).toNat zS69).f4)) 31 (by kernel_rfl) (by kernel_rfl) (by kernel_rfl) (by kernel_rfl)) ?_
          refine ED.quick hN hF hC [15, 16, 17, 18] [0, 3, 4, 21, 22, 23, 24, 25, 26, 27, 28, 29, 30, 31, 32, 33, 35] 14 [(0, .slice (some a2) a1.length a4), (3, .int .i64 a0), (4, .pointer (some ⟨a3, 0, none⟩)), (21, .int .i64 a0), (22, .bool (true)), (23, .bool (true)), (24, .pointer (some ⟨a3, 4, none⟩)), (25, .int .i64 ((a1.getD a0.toNat zS69).f4)), (26, .slice (some a2) a1.length a4), (27, .int .i64 a0), (28, .int .i64 (IntKind.i64.wrap (a0 - 1))), (29, .pointer (some ((a2.add ((IntKind.i64.wrap (a0 - 1)).toNat * 6)).add 0))), (30, .pointer (some ((a2.add ((IntKind.i64.wrap (a0 - 1)).toNat * 6)).add 4))), (31, .int .i64 ((a1.getD (IntKind.i64.wrap (a0 - 1)).toNat zS69).f4)), (32, .bool (decide (((a1.getD a0.toNat zS69).f4) < ((a1.getD (IntKind.i64.wrap (a0 - 1)).toNat zS69).f4)))), (33, .bool (decide (((a1.getD a0.toNat zS69).f4) < ((a1.getD (IntKind.i64.wrap (a0 - 1)).toNat zS69).f4)))), (35, .bool (decide (((a1.getD a0.toNat zS69).f4) < ((a1.getD (IntKind.i64.wrap (a0 - 1)).toNat zS69).f4))))] #[true, true, true, true, true, true, true, true, true, true, true, true, true, true, true, true, true, true, true, false, false, false, false, false, false, false, false, false, false, false, false, false, false] (by kernel_rfl) (by kernel_rfl) ?_
          refine ED.keep [0, 3, 4, 21, 22, 23, 24, 25, 26, 27, 28, 29, 30, 31, 32, 33, 35] [(0, .slice (some a2) a1.length a4), (3, .int .i64 a0), (4, .pointer (some ⟨a3, 0, none⟩)), (21, .int .i64 a0), (22, .bool (true)), (23, .bool (true)), (24, .pointer (some ⟨a3, 4, none⟩)), (25, .int .i64 ((a1.getD a0.toNat zS69).f4)), (26, .slice (some a2) a1.length a4), (27, .int .i64 a0), (28, .int .i64 (IntKind.i64.wrap (a0 - 1))), (29, .pointer (some ((a2.add ((IntKind.i64.wrap (a0 - 1)).toNat * 6)).add 0))), (30, .pointer (some ((a2.add ((IntKind.i64.wrap (a0 - 1)).toNat * 6)).add 4))), (31, .int .i64 ((a1.getD (IntKind.i64.wrap (a0 - 1)).toNat zS69).f4)), (32, .bool (decide (((a1.getD a0.toNat zS69).f4) < ((a1.getD (IntKind.i64.wrap (a0 - 1)).toNat zS69).f4)))), (33, .bool (decide (((a1.getD a0.toNat zS69).f4) < ((a1.getD (IntKind.i64.wrap (a0 - 1)).toNat zS69).f4)))), (35, .bool (decide (((a1.getD a0.toNat zS69).f4) < ((a1.getD (IntKind.i64.wrap (a0 - 1)).toNat zS69).f4))))] (by kernel_rfl) ?_
          refine ED.as' [(0, .slice (some a2) a1.length a4), (3, .int .i64 a0), (4, .pointer (some ⟨a3, 0, none⟩)), (21, .int .i64 a0), (22, .bool (true)), (23, .bool (true)), (24, .pointer (some ⟨a3, 4, none⟩)), (25, .int .i64 ((a1.getD a0.toNat zS69).f4)), (26, .slice (some a2) a1.length a4), (27, .int .i64 a0), (28, .int .i64 (IntKind.i64.wrap (a0 - 1))), (29, .pointer (some ((a2.add ((IntKind.i64.wrap (a0 - 1)).toNat * 6)).add 0))), (30, .pointer (some ((a2.add ((IntKind.i64.wrap (a0 - 1)).toNat * 6)).add 4))), (31, .int .i64 ((a1.getD (IntKind.i64.wrap (a0 - 1)).toNat zS69).f4)), (32, .bool (false)), (33, .bool (false)), (35, .bool (false))] (by simp only [dec_f b8, Bool.not_true, Bool.not_false]) ?_
          refine ED.quick hN hF hC [19] [0, 3, 4, 21, 22, 23, 24, 25, 26, 27, 28, 29, 30, 31, 32, 33, 35, 36] 13 [(0, .slice (some a2) a1.length a4), (3, .int .i64 a0), (4, .pointer (some ⟨a3, 0, none⟩)), (21, .int .i64 a0), (22, .bool (true)), (23, .bool (true)), (24, .pointer (some ⟨a3, 4, none⟩)), (25, .int .i64 ((a1.getD a0.toNat zS69).f4)), (26, .slice (some a2) a1.length a4), (27, .int .i64 a0), (28, .int .i64 (IntKind.i64.wrap (a0 - 1))), (29, .pointer (some ((a2.add ((IntKind.i64.wrap (a0 - 1)).toNat * 6)).add 0))), (30, .pointer (some ((a2.add ((IntKind.i64.wrap (a0 - 1)).toNat * 6)).add 4))), (31, .int .i64 ((a1.getD (IntKind.i64.wrap (a0 - 1)).toNat zS69).f4)), (32, .bool (false)), (33, .bool (false)), (35, .bool (false)), (36, .pointer (some ⟨a3, 1, none⟩))] #[true, true, true, true, true, true, true, true, true, true, true, true, true, true, true, true, true, true, true, true, false, false, false, false, false, false, false, false, false, false, false, false, false] (by kernel_rfl) (by kernel_rfl) ?_
          refine ED.Y hN hF hC 20 12 #[true, true, true, true, true, true, true, true, true, true, true, true, true, true, true, true, true, true, true, true, true, false, false, false, false, false, false, false, false, false, false, false, false] (by kernel_rfl) (by kernel_rfl) rfl (fun _ _ _ hS => YO.loadBox hS 0 rfl 3 1 1 (.int .i64 ((a1.getD a0.toNat zS69).f1)) 37 (by kernel_rfl) (by kernel_rfl) (by kernel_rfl) (by kernel_rfl)) ?_
          refine ED.quick hN hF hC [21, 22, 23] [0, 3, 4, 21, 22, 23, 24, 25, 26, 27, 28, 29, 30, 31, 32, 33, 36, 37, 38, 40] 9 [(0, .slice (some a2) a1.length a4), (3, .int .i64 a0), (4, .pointer (some ⟨a3, 0, none⟩)), (21, .int .i64 a0), (22, .bool (true)), (23, .bool (true)), (24, .pointer (some ⟨a3, 4, none⟩)), (25, .int .i64 ((a1.getD a0.toNat zS69).f4)), (26, .slice (some a2) a1.length a4), (27, .int .i64 a0), (28, .int .i64 (IntKind.i64.wrap (a0 - 1))), (29, .pointer (some ((a2.add ((IntKind.i64.wrap (a0 - 1)).toNat * 6)).add 0))), (30, .pointer (some ((a2.add ((IntKind.i64.wrap (a0 - 1)).toNat * 6)).add 4))), (31, .int .i64 ((a1.getD (IntKind.i64.wrap (a0 - 1)).toNat zS69).f4)), (32, .bool (false)), (33, .bool (false)), (36, .pointer (some ⟨a3, 1, none⟩)), (37, .int .i64 ((a1.getD a0.toNat zS69).f1)), (38, .bool (decide (((a1.getD a0.toNat zS69).f1) < 0))), (40, .bool (decide (((a1.getD a0.toNat zS69).f1) < 0)))] #[true, true, true, true, true, true, true, true, true, true, true, true, true, true, true, true, true, true, true, true, true, true, true, true, false, false, false, false, false, false, false, false, false] (by kernel_rfl) (by kernel_rfl) ?_
          refine ED.keep [0, 3, 4, 21, 22, 23, 24, 25, 26, 27, 28, 29, 30, 31, 32, 33, 36, 37, 38, 40] [(0, .slice (some a2) a1.length a4), (3, .int .i64 a0), (4, .pointer (some ⟨a3, 0, none⟩)), (21, .int .i64 a0), (22, .bool (true)), (23, .bool (true)), (24, .pointer (some ⟨a3, 4, none⟩)), (25, .int .i64 ((a1.getD a0.toNat zS69).f4)), (26, .slice (some a2) a1.length a4), (27, .int .i64 a0), (28, .int .i64 (IntKind.i64.wrap (a0 - 1))), (29, .pointer (some ((a2.add ((IntKind.i64.wrap (a0 - 1)).toNat * 6)).add 0))), (30, .pointer (some ((a2.add ((IntKind.i64.wrap (a0 - 1)).toNat * 6)).add 4))), (31, .int .i64 ((a1.getD (IntKind.i64.wrap (a0 - 1)).toNat zS69).f4)), (32, .bool (false)), (33, .bool (false)), (36, .pointer (some ⟨a3, 1, none⟩)), (37, .int .i64 ((a1.getD a0.toNat zS69).f1)), (38, .bool (decide (((a1.getD a0.toNat zS69).f1) < 0))), (40, .bool (decide (((a1.getD a0.toNat zS69).f1) < 0)))] (by kernel_rfl) ?_
          refine ED.as' [(0, .slice (some a2) a1.length a4), (3, .int .i64 a0), (4, .pointer (some ⟨a3, 0, none⟩)), (21, .int .i64 a0), (22, .bool (true)), (23, .bool (true)), (24, .pointer (some ⟨a3, 4, none⟩)), (25, .int .i64 ((a1.getD a0.toNat zS69).f4)), (26, .slice (some a2) a1.length a4), (27, .int .i64 a0), (28, .int .i64 (IntKind.i64.wrap (a0 - 1))), (29, .pointer (some ((a2.add ((IntKind.i64.wrap (a0 - 1)).toNat * 6)).add 0))), (30, .pointer (some ((a2.add ((IntKind.i64.wrap (a0 - 1)).toNat * 6)).add 4))), (31, .int .i64 ((a1.getD (IntKind.i64.wrap (a0 - 1)).toNat zS69).f4)), (32, .bool (false)), (33, .bool (false)), (36, .pointer (some ⟨a3, 1, none⟩)), (37, .int .i64 ((a1.getD a0.toNat zS69).f1)), (38, .bool (false)), (40, .bool (false))] (by simp only [dec_f c0, Bool.not_true, Bool.not_false]) ?_
          refine ED.quick hN hF hC [24] [0, 3, 4, 21, 22, 23, 24, 25, 26, 27, 28, 29, 30, 31, 32, 33, 36, 37, 38, 40, 41] 8 [(0, .slice (some a2) a1.length a4), (3, .int .i64 a0), (4, .pointer (some ⟨a3, 0, none⟩)), (21, .int .i64 a0), (22, .bool (true)), (23, .bool (true)), (24, .pointer (some ⟨a3, 4, none⟩)), (25, .int .i64 ((a1.getD a0.toNat zS69).f4)), (26, .slice (some a2) a1.length a4), (27, .int .i64 a0), (28, .int .i64 (IntKind.i64.wrap (a0 - 1))), (29, .pointer (some ((a2.add ((IntKind.i64.wrap (a0 - 1)).toNat * 6)).add 0))), (30, .pointer (some ((a2.add ((IntKind.i64.wrap (a0 - 1)).toNat * 6)).add 4))), (31, .int .i64 ((a1.getD (IntKind.i64.wrap (a0 - 1)).toNat zS69).f4)), (32, .bool (false)), (33, .bool (false)), (36, .pointer (some ⟨a3, 1, none⟩)), (37, .int .i64 ((a1.getD a0.toNat zS69).f1)), (38, .bool (false)), (40, .bool (false)), (41, .pointer (some ⟨a3, 2, none⟩))] #[true, true, true, true, true, true, true, true, true, true, true, true, true, true, true, true, true, true, true, true, true, true, true, true, true, false, false, false, false, false, false, false, false] (by kernel_rfl) (by kernel_rfl) ?_
          refine ED.Y hN hF hC 25 7 #[true, true, true, true, true, true, true, true, true, true, true, true, true, true, true, true, true, true, true, true, true, true, true, true, true, true, false, false, false, false, false, false, false] (by kernel_rfl) (by kernel_rfl) rfl (fun _ _ _ hS => YO.loadBox hS 0 rfl 3 2 1 (.int .i64 ((a1.getD a0.toNat zS69).f2)) 42 (by kernel_rfl) (by kernel_rfl) (by kernel_rfl) (by kernel_rfl)) ?_
          refine ED.quick hN hF hC [26, 27, 28] [0, 3, 4, 21, 22, 23, 24, 25, 26, 27, 28, 29, 30, 31, 32, 33, 36, 37, 38, 41, 42, 43, 45] 4 [(0, .slice (some a2) a1.length a4), (3, .int .i64 a0), (4, .pointer (some ⟨a3, 0, none⟩)), (21, .int .i64 a0), (22, .bool (true)), (23, .bool (true)), (24, .pointer (some ⟨a3, 4, none⟩)), (25, .int .i64 ((a1.getD a0.toNat zS69).f4)), (26, .slice (some a2) a1.length a4), (27, .int .i64 a0), (28, .int .i64 (IntKind.i64.wrap (a0 - 1))), (29, .pointer (some ((a2.add ((IntKind.i64.wrap (a0 - 1)).toNat * 6)).add 0))), (30, .pointer (some ((a2.add ((IntKind.i64.wrap (a0 - 1)).toNat * 6)).add 4))), (31, .int .i64 ((a1.getD (IntKind.i64.wrap (a0 - 1)).toNat zS69).f4)), (32, .bool (false)), (33, .bool (false)), (36, .pointer (some ⟨a3, 1, none⟩)), (37, .int .i64 ((a1.getD a0.toNat zS69).f1)), (38, .bool (false)), (41, .pointer (some ⟨a3, 2, none⟩)), (42, .int .i64 ((a1.getD a0.toNat zS69).f2)), (43, .bool (decide (((a1.getD a0.toNat zS69).f2) < 0))), (45, .bool (decide (((a1.getD a0.toNat zS69).f2) < 0)))] #[true, true, true, true, true, true, true, true, true, true, true, true, true, true, true, true, true, true, true, true, true, true, true, true, true, true, true, true, true, false, false, false, false] (by kernel_rfl) (by kernel_rfl) ?_
          refine ED.keep [0, 3, 4, 21, 22, 23, 24, 25, 26, 27, 28, 29, 30, 31, 32, 33, 36, 37, 38, 41, 42, 43, 45] [(0, .slice (some a2) a1.length a4), (3, .int .i64 a0), (4, .pointer (some ⟨a3, 0, none⟩)), (21, .int .i64 a0), (22, .bool (true)), (23, .bool (true)), (24, .pointer (some ⟨a3, 4, none⟩)), (25, .int .i64 ((a1.getD a0.toNat zS69).f4)), (26, .slice (some a2) a1.length a4), (27, .int .i64 a0), (28, .int .i64 (IntKind.i64.wrap (a0 - 1))), (29, .pointer (some ((a2.add ((IntKind.i64.wrap (a0 - 1)).toNat * 6)).add 0))), (30, .pointer (some ((a2.add ((IntKind.i64.wrap (a0 - 1)).toNat * 6)).add 4))), (31, .int .i64 ((a1.getD (IntKind.i64.wrap (a0 - 1)).toNat zS69).f4)), (32, .bool (false)), (33, .bool (false)), (36, .pointer (some ⟨a3, 1, none⟩)), (37, .int .i64 ((a1.getD a0.toNat zS69).f1)), (38, .bool (false)), (41, .pointer (some ⟨a3, 2, none⟩)), (42, .int .i64 ((a1.getD a0.toNat zS69).f2)), (43, .bool (decide (((a1.getD a0.toNat zS69).f2) < 0))), (45, .bool (decide (((a1.getD a0.toNat zS69).f2) < 0)))] (by kernel_rfl) ?_
          refine ED.as' [(0, .slice (some a2) a1.length a4), (3, .int .i64 a0), (4, .pointer (some ⟨a3, 0, none⟩)), (21, .int .i64 a0), (22, .bool (true)), (23, .bool (true)), (24, .pointer (some ⟨a3, 4, none⟩)), (25, .int .i64 ((a1.getD a0.toNat zS69).f4)), (26, .slice (some a2) a1.length a4), (27, .int .i64 a0), (28, .int .i64 (IntKind.i64.wrap (a0 - 1))), (29, .pointer (some ((a2.add ((IntKind.i64.wrap (a0 - 1)).toNat * 6)).add 0))), (30, .pointer (some ((a2.add ((IntKind.i64.wrap (a0 - 1)).toNat * 6)).add 4))), (31, .int .i64 ((a1.getD (IntKind.i64.wrap (a0 - 1)).toNat zS69).f4)), (32, .bool (false)), (33, .bool (false)), (36, .pointer (some ⟨a3, 1, none⟩)), (37, .int .i64 ((a1.getD a0.toNat zS69).f1)), (38, .bool (false)), (41, .pointer (some ⟨a3, 2, none⟩)), (42, .int .i64 ((a1.getD a0.toNat zS69).f2)), (43, .bool (false)), (45, .bool (false))] (by simp only [dec_f c2, Bool.not_true, Bool.not_false]) ?_
          refine ED.quick hN hF hC [29] [0, 3, 4, 21, 22, 23, 24, 25, 26, 27, 28, 29, 30, 31, 32, 33, 36, 37, 38, 41, 42, 43, 45, 46] 3 [(0, .slice (some a2) a1.length a4), (3, .int .i64 a0), (4, .pointer (some ⟨a3, 0, none⟩)), (21, .int .i64 a0), (22, .bool (true)), (23, .bool (true)), (24, .pointer (some ⟨a3, 4, none⟩)), (25, .int .i64 ((a1.getD a0.toNat zS69).f4)), (26, .slice (some a2) a1.length a4), (27, .int .i64 a0), (28, .int .i64 (IntKind.i64.wrap (a0 - 1))), (29, .pointer (some ((a2.add ((IntKind.i64.wrap (a0 - 1)).toNat * 6)).add 0))), (30, .pointer (some ((a2.add ((IntKind.i64.wrap (a0 - 1)).toNat * 6)).add 4))), (31, .int .i64 ((a1.getD (IntKind.i64.wrap (a0 - 1)).toNat zS69).f4)), (32, .bool (false)), (33, .bool (false)), (36, .pointer (some ⟨a3, 1, none⟩)), (37, .int .i64 ((a1.getD a0.toNat zS69).f1)), (38, .bool (false)), (41, .pointer (some ⟨a3, 2, none⟩)), (42, .int .i64 ((a1.getD a0.toNat zS69).f2)), (43, .bool (false)), (45, .bool (false)), (46, .pointer (some ⟨a3, 5, none⟩))] #[true, true, true, true, true, true, true, true, true, true, true, true, true, true, true, true, true, true, true, true, true, true, true, true, true, true, true, true, true, true, false, false, false] (by kernel_rfl) (by kernel_rfl) ?_
          refine ED.Y hN hF hC 30 2 #[true, true, true, true, true, true, true, true, true, true, true, true, true, true, true, true, true, true, true, true, true, true, true, true, true, true, true, true, true, true, true, false, false] (by kernel_rfl) (by kernel_rfl) rfl (fun _ _ _ hS => YO.loadBox hS 0 rfl 21 5 1 (.int .i32 ((a1.getD a0.toNat zS69).f5)) 47 (by kernel_rfl) (by kernel_rfl) (by kernel_rfl) (by kernel_rfl)) ?_
          refine ED.quick hN hF hC [31, 32] [0, 3, 4, 21, 22, 23, 24, 25, 26, 27, 28, 29, 30, 31, 32, 33, 36, 37, 38, 41, 42, 43, 46, 47, 48, 49] 0 [(0, .slice (some a2) a1.length a4), (3, .int .i64 a0), (4, .pointer (some ⟨a3, 0, none⟩)), (21, .int .i64 a0), (22, .bool (true)), (23, .bool (true)), (24, .pointer (some ⟨a3, 4, none⟩)), (25, .int .i64 ((a1.getD a0.toNat zS69).f4)), (26, .slice (some a2) a1.length a4), (27, .int .i64 a0), (28, .int .i64 (IntKind.i64.wrap (a0 - 1))), (29, .pointer (some ((a2.add ((IntKind.i64.wrap (a0 - 1)).toNat * 6)).add 0))), (30, .pointer (some ((a2.add ((IntKind.i64.wrap (a0 - 1)).toNat * 6)).add 4))), (31, .int .i64 ((a1.getD (IntKind.i64.wrap (a0 - 1)).toNat zS69).f4)), (32, .bool (false)), (33, .bool (false)), (36, .pointer (some ⟨a3, 1, none⟩)), (37, .int .i64 ((a1.getD a0.toNat zS69).f1)), (38, .bool (false)), (41, .pointer (some ⟨a3, 2, none⟩)), (42, .int .i64 ((a1.getD a0.toNat zS69).f2)), (43, .bool (false)), (46, .pointer (some ⟨a3, 5, none⟩)), (47, .int .i32 ((a1.getD a0.toNat zS69).f5)), (48, .bool (decide (((a1.getD a0.toNat zS69).f5) < 0))), (49, .bool (decide (((a1.getD a0.toNat zS69).f5) < 0)))] #[true, true, true, true, true, true, true, true, true, true, true, true, true, true, true, true, true, true, true, true, true, true, true, true, true, true, true, true, true, true, true, true, true] (by kernel_rfl) (by kernel_rfl) ?_
          refine ED.done (by kernel_rfl) ?_
          refine EQ.to ?_
          refine EQ.keep [0, 3, 4, 49] [(0, .slice (some a2) a1.length a4), (3, .int .i64 a0), (4, .pointer (some ⟨a3, 0, none⟩)), (49, .bool (decide (((a1.getD a0.toNat zS69).f5) < 0)))] (by kernel_rfl) ?_
          exact fun a ha => ⟨decide (((a1.getD a0.toNat zS69).f5) < 0), ha, (hS.re [0] [] rfl (sub_cons 0 rfl (sub_tail (sub_self)))), H⟩
      ·rw [if_neg b0] at H
       by_cases c1 : ((a1.getD a0.toNat zS69).f1) < 0
       ·rw [if_pos c1] at H
        have hS := hS.drew
        refine EW.draw (B := B) (id := 5) (ops := Cd32.r.l.r.l.l.r.l.l.r.l.l.ops) [Ass.box 69 a3 [.int .i64 ((a1.getD a0.toNat zS69).f0), .int .i64 ((a1.getD a0.toNat zS69).f1), .int .i64 ((a1.getD a0.toNat zS69).f2), .int .i32 ((a1.getD a0.toNat zS69).f3), .int .i64 ((a1.getD a0.toNat zS69).f4), .int .i32 ((a1.getD a0.toNat zS69).f5)]] [Ro.sl kS69 (some a2) a4 a1] (by kernel_rfl) (by kernel_rfl) ?_
        have hN : Region.noSelect Cd32.r.l.r.l.l.r.l.l.r.l.l.ops = true := (by kernel_rfl)
        have hF : freeAll Cd32.r.l.r.l.l.r.l.l.r.l.l.ops = true := (by kernel_rfl)
        have hC : Core B [Ass.box 69 a3 [.int .i64 ((a1.getD a0.toNat zS69).f0), .int .i64 ((a1.getD a0.toNat zS69).f1), .int .i64 ((a1.getD a0.toNat zS69).f2), .int .i32 ((a1.getD a0.toNat zS69).f3), .int .i64 ((a1.getD a0.toNat zS69).f4), .int .i32 ((a1.getD a0.toNat zS69).f5)]] [Ro.sl kS69 (some a2) a4 a1] _ := ⟨_, _, hS⟩
        refine ED.quick hN hF hC [0] [0, 3, 4, 17] 32 [(0, .slice (some a2) a1.length a4), (3, .int .i64 a0), (4, .pointer (some ⟨a3, 0, none⟩)), (17, .pointer (some ⟨a3, 4, none⟩))] #[true, false, false, false, false, false, false, false, false, false, false, false, false, false, false, false, false, false, false, false, false, false, false, false, false, false, false, false, false, false, false, false, false] (by kernel_rfl) (by kernel_rfl) ?_
        refine ED.Y hN hF hC 1 31 #[true, true, false, false, false, false, false, false, false, false, false, false, false, false, false, false, false, false, false, false, false, false, false, false, false, false, false, false, false, false, false, false, false] (by kernel_rfl) (by kernel_rfl) rfl (fun _ _ _ hS => YO.loadBox hS 0 rfl 3 4 1 (.int .i64 ((a1.getD a0.toNat zS69).f4)) 18 (by kernel_rfl) (by kernel_rfl) (by kernel_rfl) (by kernel_rfl)) ?_
        refine ED.quick hN hF hC [2, 3] [0, 3, 4, 20] 29 [(0, .slice (some a2) a1.length a4), (3, .int .i64 a0), (4, .pointer (some ⟨a3, 0, none⟩)), (20, .bool (decide (((a1.getD a0.toNat zS69).f4) < 0)))] #[true, true, true, true, false, false, false, false, false, false, false, false, false, false, false, false, false, false, false, false, false, false, false, false, false, false, false, false, false, false, false, false, false] (by kernel_rfl) (by kernel_rfl) ?_
        refine ED.keep [0, 3, 4, 20] [(0, .slice (some a2) a1.length a4), (3, .int .i64 a0), (4, .pointer (some ⟨a3, 0, none⟩)), (20, .bool (decide (((a1.getD a0.toNat zS69).f4) < 0)))] (by kernel_rfl) ?_
        refine ED.as' [(0, .slice (some a2) a1.length a4), (3, .int .i64 a0), (4, .pointer (some ⟨a3, 0, none⟩)), (20, .bool (false))] (by simp only [dec_f a8, Bool.not_true, Bool.not_false]) ?_
        refine ED.quick hN hF hC [4, 5, 6] [0, 3, 4, 20, 21, 22, 23] 26 [(0, .slice (some a2) a1.length a4), (3, .int .i64 a0), (4, .pointer (some ⟨a3, 0, none⟩)), (20, .bool (false)), (21, .int .i64 a0), (22, .bool (decide (a0 > 0))), (23, .bool (decide (a0 > 0)))] #[true, true, true, true, true, true, true, false, false, false, false, false, false, false, false, false, false, false, false, false, false, false, false, false, false, false, false, false, false, false, false, false, false] (by kernel_rfl) (by kernel_rfl) ?_
        refine ED.keep [0, 3, 4, 20, 21, 22, 23] [(0, .slice (some a2) a1.length a4), (3, .int .i64 a0), (4, .pointer (some ⟨a3, 0, none⟩)), (20, .bool (false)), (21, .int .i64 a0), (22, .bool (decide (a0 > 0))), (23, .bool (decide (a0 > 0)))] (by kernel_rfl) ?_
        refine ED.as' [(0, .slice (some a2) a1.length a4), (3, .int .i64 a0), (4, .pointer (some ⟨a3, 0, none⟩)), (20, .bool (false)), (21, .int .i64 a0), (22, .bool (false)), (23, .bool (false))] (by simp only [dec_f b0, Bool.not_true, Bool.not_false]) ?_
        refine ED.quick hN hF hC [7, 8, 9, 10, 11, 12, 13, 14, 15, 16, 17, 18, 19] [0, 3, 4, 21, 22, 23, 24, 25, 26, 27, 28, 29, 30, 31, 32, 33, 35, 36] 13 [(0, .slice (some a2) a1.length a4), (3, .int .i64 a0), (4, .pointer (some ⟨a3, 0, none⟩)), (21, .int .i64 a0), (22, .bool (false)), (23, .bool (false)), (24, undef), (25, undef), (26, undef), (27, undef), (28, undef), (29, undef), (30, undef), (31, undef), (32, undef), (33, .bool (false)), (35, .bool (false)), (36, .pointer (some ⟨a3, 1, none⟩))] #[true, true, true, true, true, true, true, true, true, true, true, true, true, true, true, true, true, true, true, true, false, false, false, false, false, false, false, false, false, false, false, false, false] (by kernel_rfl) (by kernel_rfl) ?_
        refine ED.Y hN hF hC 20 12 #[true, true, true, true, true, true, true, true, true, true, true, true, true, true, true, true, true, true, true, true, true, false, false, false, false, false, false, false, false, false, false, false, false] (by kernel_rfl) (by kernel_rfl) rfl (fun _ _ _ hS => YO.loadBox hS 0 rfl 3 1 1 (.int .i64 ((a1.getD a0.toNat zS69).f1)) 37 (by kernel_rfl) (by kernel_rfl) (by kernel_rfl) (by kernel_rfl)) ?_
        refine ED.quick hN hF hC [21, 22, 23] [0, 3, 4, 21, 22, 23, 24, 25, 26, 27, 28, 29, 30, 31, 32, 33, 36, 37, 38, 40] 9 [(0, .slice (some a2) a1.length a4), (3, .int .i64 a0), (4, .pointer (some ⟨a3, 0, none⟩)), (21, .int .i64 a0), (22, .bool (false)), (23, .bool (false)), (24, undef), (25, undef), (26, undef), (27, undef), (28, undef), (29, undef), (30, undef), (31, undef), (32, undef), (33, .bool (false)), (36, .pointer (some ⟨a3, 1, none⟩)), (37, .int .i64 ((a1.getD a0.toNat zS69).f1)), (38, .bool (decide (((a1.getD a0.toNat zS69).f1) < 0))), (40, .bool (decide (((a1.getD a0.toNat zS69).f1) < 0)))] #[true, true, true, true, true, true, true, true, true, true, true, true, true, true, true, true, true, true, true, true, true, true, true, true, false, false, false, false, false, false, false, false, false] (by kernel_rfl) (by kernel_rfl) ?_
        refine ED.keep [0, 3, 4, 21, 22, 23, 33, 36, 37, 38, 40] [(0, .slice (some a2) a1.length a4), (3, .int .i64 a0), (4, .pointer (some ⟨a3, 0, none⟩)), (21, .int .i64 a0), (22, .bool (false)), (23, .bool (false)), (33, .bool (false)), (36, .pointer (some ⟨a3, 1, none⟩)), (37, .int .i64 ((a1.getD a0.toNat zS69).f1)), (38, .bool (decide (((a1.getD a0.toNat zS69).f1) < 0))), (40, .bool (decide (((a1.getD a0.toNat zS69).f1) < 0)))] (by kernel_rfl) ?_
        refine ED.as' [(0, .slice (some a2) a1.length a4), (3, .int .i64 a0), (4, .pointer (some ⟨a3, 0, none⟩)), (21, .int .i64 a0), (22, .bool (false)), (23, .bool (false)), (33, .bool (false)), (36, .pointer (some ⟨a3, 1, none⟩)), (37, .int .i64 ((a1.getD a0.toNat zS69).f1)), (38, .bool (true)), (40, .bool (true))] (by simp only [dec_t c1, Bool.not_true, Bool.not_false]) ?_
        refine ED.quick hN hF hC [24, 25, 26, 27, 28, 29, 30, 31, 32] [0, 3, 4, 21, 22, 23, 33, 36, 37, 38, 41, 42, 43, 46, 47, 48, 49] 0 [(0, .slice (some a2) a1.length a4), (3, .int .i64 a0), (4, .pointer (some ⟨a3, 0, none⟩)), (21, .int .i64 a0), (22, .bool (false)), (23, .bool (false)), (33, .bool (false)), (36, .pointer (some ⟨a3, 1, none⟩)), (37, .int .i64 ((a1.getD a0.toNat zS69).f1)), (38, .bool (true)), (41, undef), (42, undef), (43, undef), (46, undef), (47, undef), (48, undef), (49, .bool (true))] #[true, true, true, true, true, true, true, true, true, true, true, true, true, true, true, true, true, true, true, true, true, true, true, true, true, true, true, true, true, true, true, true, true] (by kernel_rfl) (by kernel_rfl) ?_
        refine ED.done (by kernel_rfl) ?_
        refine EQ.to ?_
        refine EQ.keep [0, 3, 4, 49] [(0, .slice (some a2) a1.length a4), (3, .int .i64 a0), (4, .pointer (some ⟨a3, 0, none⟩)), (49, .bool (true))] (by kernel_rfl) ?_
        exact fun a ha => ⟨true, ha, (hS.re [0] [] rfl (sub_cons 0 rfl (sub_tail (sub_self)))), H⟩
       ·rw [if_neg c1] at H
        by_cases c3 : ((a1.getD a0.toNat zS69).f2) < 0
        ·rw [if_pos c3] at H
         have hS := hS.drew
         refine EW.draw (B := B) (id := 5) (ops := Cd32.r.l.r.l.l.r.l.l.r.l.l.ops) [Ass.box 69 a3 [.int .i64 ((a1.getD a0.toNat zS69).f0), .int .i64 ((a1.getD a0.toNat zS69).f1), .int .i64 ((a1.getD a0.toNat zS69).f2), .int .i32 ((a1.getD a0.toNat zS69).f3), .int .i64 ((a1.getD a0.toNat zS69).f4), .int .i32 ((a1.getD a0.toNat zS69).f5)]] [Ro.sl kS69 (some a2) a4 a1] (by kernel_rfl) (by kernel_rfl) ?_
         have hN : Region.noSelect Cd32.r.l.r.l.l.r.l.l.r.l.l.ops = true := (by kernel_rfl)
         have hF : freeAll Cd32.r.l.r.l.l.r.l.l.r.l.l.ops = true := (by kernel_rfl)
         have hC : Core B [Ass.box 69 a3 [.int .i64 ((a1.getD a0.toNat zS69).f0), .int .i64 ((a1.getD a0.toNat zS69).f1), .int .i64 ((a1.getD a0.toNat zS69).f2), .int .i32 ((a1.getD a0.toNat zS69).f3), .int .i64 ((a1.getD a0.toNat zS69).f4), .int .i32 ((a1.getD a0.toNat zS69).f5)]] [Ro.sl kS69 (some a2) a4 a1] _ := ⟨_, _, hS⟩
         refine ED.quick hN hF hC [0] [0, 3, 4, 17] 32 [(0, .slice (some a2) a1.length a4), (3, .int .i64 a0), (4, .pointer (some ⟨a3, 0, none⟩)), (17, .pointer (some ⟨a3, 4, none⟩))] #[true, false, false, false, false, false, false, false, false, false, false, false, false, false, false, false, false, false, false, false, false, false, false, false, false, false, false, false, false, false, false, false, false] (by kernel_rfl) (by kernel_rfl) ?_
         refine ED.Y hN hF hC 1 31 #[true, true, false, false, false, false, false, false, false, false, false, false, false, false, false, false, false, false, false, false, false, false, false, false, false, false, false, false, false, false, false, false, false] (by kernel_rfl) (by kernel_rfl) rfl (fun _ _ _ hS => YO.loadBox hS 0 rfl 3 4 1 (.int .i64 ((a1.getD a0.toNat zS69).f4)) 18 (by kernel_rfl) (by kernel_rfl) (by kernel_rfl) (by kernel_rfl)) ?_
         refine ED.quick hN hF hC [2, 3] [0, 3, 4, 20] 29 [(0, .slice (some a2) a1.length a4), (3, .int .i64 a0), (4, .pointer (some ⟨a3, 0, none⟩)), (20, .bool (decide (((a1.getD a0.toNat zS69).f4) < 0)))] #[true, true, true, true, false, false, false, false, false, false, false, false, false, false, false, false, false, false, false, false, false, false, false, false, false, false, false, false, false, false, false, false, false] (by kernel_rfl) (by kernel_rfl) ?_
         refine ED.keep [0, 3, 4, 20] [(0, .slice (some a2) a1.length a4), (3, .int .i64 a0), (4, .pointer (some ⟨a3, 0, none⟩)), (20, .bool (decide (((a1.getD a0.toNat zS69).f4) < 0)))] (by kernel_rfl) ?_
         refine ED.as' [(0, .slice (some a2) a1.length a4), (3, .int .i64 a0), (4, .pointer (some ⟨a3, 0, none⟩)), (20, .bool (false))] (by simp only [dec_f a8, Bool.not_true, Bool.not_false]) ?_
         refine ED.quick hN hF hC [4, 5, 6] [0, 3, 4, 20, 21, 22, 23] 26 [(0, .slice (some a2) a1.length a4), (3, .int .i64 a0), (4, .pointer (some ⟨a3, 0, none⟩)), (20, .bool (false)), (21, .int .i64 a0), (22, .bool (decide (a0 > 0))), (23, .bool (decide (a0 > 0)))] #[true, true, true, true, true, true, true, false, false, false, false, false, false, false, false, false, false, false, false, false, false, false, false, false, false, false, false, false, false, false, false, false, false] (by kernel_rfl) (by kernel_rfl) ?_
         refine ED.keep [0, 3, 4, 20, 21, 22, 23] [(0, .slice (some a2) a1.length a4), (3, .int .i64 a0), (4, .pointer (some ⟨a3, 0, none⟩)), (20, .bool (false)), (21, .int .i64 a0), (22, .bool (decide (a0 > 0))), (23, .bool (decide (a0 > 0)))] (by kernel_rfl) ?_
         refine ED.as' [(0, .slice (some a2) a1.length a4), (3, .int .i64 a0), (4, .pointer (some ⟨a3, 0, none⟩)), (20, .bool (false)), (21, .int .i64 a0), (22, .bool (false)), (23, .bool (false))] (by simp only [dec_f b0, Bool.not_true, Bool.not_false]) ?_
         refine ED.quick hN hF hC [7, 8, 9, 10, 11, 12, 13, 14, 15, 16, 17, 18, 19] [0, 3, 4, 21, 22, 23, 24, 25, 26, 27, 28, 29, 30, 31, 32, 33, 35, 36] 13 [(0, .slice (some a2) a1.length a4), (3, .int .i64 a0), (4, .pointer (some ⟨a3, 0, none⟩)), (21, .int .i64 a0), (22, .bool (false)), (23, .bool (false)), (24, undef), (25, undef), (26, undef), (27, undef), (28, undef), (29, undef), (30, undef), (31, undef), (32, undef), (33, .bool (false)), (35, .bool (false)), (36, .pointer (some ⟨a3, 1, none⟩))] #[true, true, true, true, true, true, true, true, true, true, true, true, true, true, true, true, true, true, true, true, false, false, false, false, false, false, false, false, false, false, false, false, false] (by kernel_rfl) (by kernel_rfl) ?_
         refine ED.Y hN hF hC 20 12 #[true, true, true, true, true, true, true, true, true, true, true, true, true, true, true, true, true, true, true, true, true, false, false, false, false, false, false, false, false, false, false, false, false] (by kernel_rfl) (by kernel_rfl) rfl (fun _ _ _ hS => YO.loadBox hS 0 rfl 3 1 1 (.int .i64 ((a1.getD a0.toNat zS69).f1)) 37 (by kernel_rfl) (by kernel_rfl) (by kernel_rfl) (by kernel_rfl)) ?_
         refine ED.quick hN hF hC [21, 22, 23] [0, 3, 4, 21, 22, 23, 24, 25, 26, 27, 28, 29, 30, 31, 32, 33, 36, 37, 38, 40] 9 [(0, .slice (some a2) a1.length a4), (3, .int .i64 a0), (4, .pointer (some ⟨a3, 0, none⟩)), (21, .int .i64 a0), (22, .bool (false)), (23, .bool (false)), (24, undef), (25, undef), (26, undef), (27, undef), (28, undef), (29, undef), (30, undef), (31, undef), (32, undef), (33, .bool (false)), (36, .pointer (some ⟨a3, 1, none⟩)), (37, .int .i64 ((a1.getD a0.toNat zS69).f1)), (38, .bool (decide (((a1.getD a0.toNat zS69).f1) < 0))), (40, .bool (decide (((a1.getD a0.toNat zS69).f1) < 0)))] #[true, true, true, true, true, true, true, true, true, true, true, true, true, true, true, true, true, true, true, true, true, true, true, true, false, false, false, false, false, false, false, false, false] (by kernel_rfl) (by kernel_rfl) ?_
         refine ED.keep [0, 3, 4, 21, 22, 23, 33, 36, 37, 38, 40] [(0, .slice (some a2) a1.length a4), (3, .int .i64 a0), (4, .pointer (some ⟨a3, 0, none⟩)), (21, .int .i64 a0), (22, .bool (false)), (23, .bool (false)), (33, .bool (false)), (36, .pointer (some ⟨a3, 1, none⟩)), (37, .int .i64 ((a1.getD a0.toNat zS69).f1)), (38, .bool (decide (((a1.getD a0.toNat zS69).f1) < 0))), (40, .bool (decide (((a1.getD a0.toNat zS69).f1) < 0)))] (by kernel_rfl) ?_
         refine ED.as' [(0, .slice (some a2) a1.length a4), (3, .int .i64 a0), (4, .pointer (some ⟨a3, 0, none⟩)), (21, .int .i64 a0), (22, .bool (false)), (23, .bool (false)), (33, .bool (false)), (36, .pointer (some ⟨a3, 1, none⟩)), (37, .int .i64 ((a1.getD a0.toNat zS69).f1)), (38, .bool (false)), (40, .bool (false))] (by simp only [dec_f c1, Bool.not_true, Bool.not_false]) ?_
         refine ED.quick hN hF hC [24] [0, 3, 4, 21, 22, 23, 33, 36, 37, 38, 40, 41] 8 [(0, .slice (some a2) a1.length a4), (3, .int .i64 a0), (4, .pointer (some ⟨a3, 0, none⟩)), (21, .int .i64 a0), (22, .bool (false)), (23, .bool (false)), (33, .bool (false)), (36, .pointer (some ⟨a3, 1, none⟩)), (37, .int .i64 ((a1.getD a0.toNat zS69).f1)), (38, .bool (false)), (40, .bool (false)), (41, .pointer (some ⟨a3, 2, none⟩))] #[true, true, true, true, true, true, true, true, true, true, true, true, true, true, true, true, true, true, true, true, true, true, true, true, true, false, false, false, false, false, false, false, false] (by kernel_rfl) (by kernel_rfl) ?_
         refine ED.Y hN hF hC 25 7 #[true, true, true, true, true, true, true, true, true, true, true, true, true, true, true, true, true, true, true, true, true, true, true, true, true, true, false, false, false, false, false, false, false] (by kernel_rfl) (by kernel_rfl) rfl (fun _ _ _ hS => YO.loadBox hS 0 rfl 3 2 1 (.int .i64 ((a1.getD a0.toNat zS69).f2)) 42 (by kernel_rfl) (by kernel_rfl) (by kernel_rfl) (by kernel_rfl)) ?_
         refine ED.quick hN hF hC [26, 27, 28] [0, 3, 4, 21, 22, 23, 33, 36, 37, 38, 41, 42, 43, 45] 4 [(0, .slice (some a2) a1.length a4), (3, .int .i64 a0), (4, .pointer (some ⟨a3, 0, none⟩)), (21, .int .i64 a0), (22, .bool (false)), (23, .bool (false)), (33, .bool (false)), (36, .pointer (some ⟨a3, 1, none⟩)), (37, .int .i64 ((a1.getD a0.toNat zS69).f1)), (38, .bool (false)), (41, .pointer (some ⟨a3, 2, none⟩)), (42, .int .i64 ((a1.getD a0.toNat zS69).f2)), (43, .bool (decide (((a1.getD a0.toNat zS69).f2) < 0))), (45, .bool (decide (((a1.getD a0.toNat zS69).f2) < 0)))] #[true, true, true, true, true, true, true, true, true, true, true, true, true, true, true, true, true, true, true, true, true, true, true, true, true, true, true, true, true, false, false, false, false] (by kernel_rfl) (by kernel_rfl) ?_
         refine ED.keep [0, 3, 4, 21, 22, 23, 33, 36, 37, 38, 41, 42, 43, 45] [(0, .slice (some a2) a1.length a4), (3, .int .i64 a0), (4, .pointer (some ⟨a3, 0, none⟩)), (21, .int .i64 a0), (22, .bool (false)), (23, .bool (false)), (33, .bool (false)), (36, .pointer (some ⟨a3, 1, none⟩)), (37, .int .i64 ((a1.getD a0.toNat zS69).f1)), (38, .bool (false)), (41, .pointer (some ⟨a3, 2, none⟩)), (42, .int .i64 ((a1.getD a0.toNat zS69).f2)), (43, .bool (decide (((a1.getD a0.toNat zS69).f2) < 0))), (45, .bool (decide (((a1.getD a0.toNat zS69).f2) < 0)))] (by kernel_rfl) ?_
         refine ED.as' [(0, .slice (some a2) a1.length a4), (3, .int .i64 a0), (4, .pointer (some ⟨a3, 0, none⟩)), (21, .int .i64 a0), (22, .bool (false)), (23, .bool (false)), (33, .bool (false)), (36, .pointer (some ⟨a3, 1, none⟩)), (37, .int .i64 ((a1.getD a0.toNat zS69).f1)), (38, .bool (false)), (41, .pointer (some ⟨a3, 2, none⟩)), (42, .int .i64 ((a1.getD a0.toNat zS69).f2)), (43, .bool (true)), (45, .bool (true))] (by simp only [dec_t c3, Bool.not_true, Bool.not_false]) ?_
         refine ED.quick hN hF hC [29, 30, 31, 32] [0, 3, 4, 21, 22, 23, 33, 36, 37, 38, 41, 42, 43, 46, 47, 48, 49] 0 [(0, .slice (some a2) a1.length a4), (3, .int .i64 a0), (4, .pointer (some ⟨a3, 0, none⟩)), (21, .int .i64 a0), (22, .bool (false)), (23, .bool (false)), (33, .bool (false)), (36, .pointer (some ⟨a3, 1, none⟩)), (37, .int .i64 ((a1.getD a0.toNat zS69).f1)), (38, .bool (false)), (41, .pointer (some ⟨a3, 2, none⟩)), (42, .int .i64 ((a1.getD a0.toNat zS69).f2)), (43, .bool (true)), (46, undef), (47, undef), (48, undef), (49, .bool (true))] #[true, true, true, true, true, true, true, true, true, true, true, true, true, true, true, true, true, true, true, true, true, true, true, true, true, true, true, true, true, true, true, true, true] (by kernel_rfl) (by kernel_rfl) ?_
         refine ED.done (by kernel_rfl) ?_
         refine EQ.to ?_
         refine EQ.keep [0, 3, 4, 49] [(0, .slice (some a2) a1.length a4), (3, .int .i64 a0), (4, .pointer (some ⟨a3, 0, none⟩)), (49, .bool (true))] (by kernel_rfl) ?_
         exact fun a ha => ⟨true, ha, (hS.re [0] [] rfl (sub_cons 0 rfl (sub_tail (sub_self)))), H⟩
        ·rw [if_neg c3] at H
         have hS := hS.drew
         refine EW.draw (B := B) (id := 5) (ops := Cd32.r.l.r.l.l.r.l.l.r.l.l.ops) [Ass.box 69 a3 [.int .i64 ((a1.getD a0.toNat zS69).f0), .int .i64 ((a1.getD a0.toNat zS69).f1), .int .i64 ((a1.getD a0.toNat zS69).f2), .int .i32 ((a1.getD a0.toNat zS69).f3), .int .i64 ((a1.getD a0.toNat zS69).f4), .int .i32 ((a1.getD a0.toNat zS69).f5)]] [Ro.sl kS69 (some a2) a4 a1] (by kernel_rfl) (by kernel_rfl) ?_
         have hN : Region.noSelect Cd32.r.l.r.l.l.r.l.l.r.l.l.ops = true := (by kernel_rfl)
         have hF : freeAll Cd32.r.l.r.l.l.r.l.l.r.l.l.ops = true := (by kernel_rfl)
         have hC : Core B [Ass.box 69 a3 [.int .i64 ((a1.getD a0.toNat zS69).f0), .int .i64 ((a1.getD a0.toNat zS69).f1), .int .i64 ((a1.getD a0.toNat zS69).f2), .int .i32 ((a1.getD a0.toNat zS69).f3), .int .i64 ((a1.getD a0.toNat zS69).f4), .int .i32 ((a1.getD a0.toNat zS69).f5)]] [Ro.sl kS69 (some a2) a4 a1] _ := ⟨_, _, hS⟩
         refine ED.quick hN hF hC [0] [0, 3, 4, 17] 32 [(0, .slice (some a2) a1.length a4), (3, .int .i64 a0), (4, .pointer (some ⟨a3, 0, none⟩)), (17, .pointer (some ⟨a3, 4, none⟩))] #[true, false, false, false, false, false, false, false, false, false, false, false, false, false, false, false, false, false, false, false, false, false, false, false, false, false, false, false, false, false, false, false, false] (by kernel_rfl) (by kernel_rfl) ?_
         refine ED.Y hN hF hC 1 31 #[true, true, false, false, false, false, false, false, false, false, false, false, false, false, false, false, false, false, false, false, false, false, false, false, false, false, false, false, false, false, false, false, false] (by kernel_rfl) (by kernel_rfl) rfl (fun _ _ _ hS => YO.loadBox hS 0 rfl 3 4 1 (.int .i64 ((a1.getD a0.toNat zS69).f4)) 18 (by kernel_rfl) (by kernel_rfl) (by kernel_rfl) (by kernel_rfl)) ?_
         refine ED.quick hN hF hC [2, 3] [0, 3, 4, 20] 29 [(0, .slice (some a2) a1.length a4), (3, .int .i64 a0), (4, .pointer (some ⟨a3, 0, none⟩)), (20, .bool (decide (((a1.getD a0.toNat zS69).f4) < 0)))] #[true, true, true, true, false, false, false, false, false, false, false, false, false, false, false, false, false, false, false, false, false, false, false, false, false, false, false, false, false, false, false, false, false] (by kernel_rfl) (by kernel_rfl) ?_
         refine ED.keep [0, 3, 4, 20] [(0, .slice (some a2) a1.length a4), (3, .int .i64 a0), (4, .pointer (some ⟨a3, 0, none⟩)), (20, .bool (decide (((a1.getD a0.toNat zS69).f4) < 0)))] (by kernel_rfl) ?_
         refine ED.as' [(0, .slice (some a2) a1.length a4), (3, .int .i64 a0), (4, .pointer (some ⟨a3, 0, none⟩)), (20, .bool (false))] (by simp only [dec_f a8, Bool.not_true, Bool.not_false]) ?_
         refine ED.quick hN hF hC [4, 5, 6] [0, 3, 4, 20, 21, 22, 23] 26 [(0, .slice (some a2) a1.length a4), (3, .int .i64 a0), (4, .pointer (some ⟨a3, 0, none⟩)), (20, .bool (false)), (21, .int .i64 a0), (22, .bool (decide (a0 > 0))), (23, .bool (decide (a0 > 0)))] #[true, true, true, true, true, true, true, false, false, false, false, false, false, false, false, false, false, false, false, false, false, false, false, false, false, false, false, false, false, false, false, false, false] (by kernel_rfl) (by kernel_rfl) ?_
         refine ED.keep [0, 3, 4, 20, 21, 22, 23] [(0, .slice (some a2) a1.length a4), (3, .int .i64 a0), (4, .pointer (some ⟨a3, 0, none⟩)), (20, .bool (false)), (21, .int .i64 a0), (22, .bool (decide (a0 > 0))), (23, .bool (decide (a0 > 0)))] (by kernel_rfl) ?_
         refine ED.as' [(0, .slice (some a2) a1.length a4), (3, .int .i64 a0), (4, .pointer (some ⟨a3, 0, none⟩)), (20, .bool (false)), (21, .int .i64 a0), (22, .bool (false)), (23, .bool (false))] (by simp only [dec_f b0, Bool.not_true, Bool.not_false]) ?_
         refine ED.quick hN hF hC [7, 8, 9, 10, 11, 12, 13, 14, 15, 16, 17, 18, 19] [0, 3, 4, 21, 22, 23, 24, 25, 26, 27, 28, 29, 30, 31, 32, 33, 35, 36] 13 [(0, .slice (some a2) a1.length a4), (3, .int .i64 a0), (4, .pointer (some ⟨a3, 0, none⟩)), (21, .int .i64 a0), (22, .bool (false)), (23, .bool (false)), (24, undef), (25, undef), (26, undef), (27, undef), (28, undef), (29, undef), (30, undef), (31, undef), (32, undef), (33, .bool (false)), (35, .bool (false)), (36, .pointer (some ⟨a3, 1, none⟩))] #[true, true, true, true, true, true, true, true, true, true, true, true, true, true, true, true, true, true, true, true, false, false, false, false, false, false, false, false, false, false, false, false, false] (by kernel_rfl) (by kernel_rfl) ?_
         refine ED.Y hN hF hC 20 12 #[true, true, true, true, true, true, true, true, true, true, true, true, true, true, true, true, true, true, true, true, true, false, false, false, false, false, false, false, false, false, false, false, false] (by kernel_rfl) (by kernel_rfl) rfl (fun _ _ _ hS => YO.loadBox hS 0 rfl 3 1 1 (.int .i64 ((a1.getD a0.toNat zS69).f1)) 37 (by kernel_rfl) (by kernel_rfl) (by kernel_rfl) (by kernel_rfl)) ?_
         refine ED.quick hN hF hC [21, 22, 23] [0, 3, 4, 21, 22, 23, 24, 25, 26, 27, 28, 29, 30, 31, 32, 33, 36, 37, 38, 40] 9 [(0, .slice (some a2) a1.length a4), (3, .int .i64 a0), (4, .pointer (some ⟨a3, 0, none⟩)), (21, .int .i64 a0), (22, .bool (false)), (23, .bool (false)), (24, undef), (25, undef), (26, undef), (27, undef), (28, undef), (29, undef), (30, undef), (31, undef), (32, undef), (33, .bool (false)), (36, .pointer (some ⟨a3, 1, none⟩)), (37, .int .i64 ((a1.getD a0.toNat zS69).f1)), (38, .bool (decide (((a1.getD a0.toNat zS69).f1) < 0))), (40, .bool (decide (((a1.getD a0.toNat zS69).f1) < 0)))] #[true, true, true, true, true, true, true, true, true, true, true, true, true, true, true, true, true, true, true, true, true, true, true, true, false, false, false, false, false, false, false, false, false] (by kernel_rfl) (by kernel_rfl) ?_
         refine ED.keep [0, 3, 4, 21, 22, 23, 33, 36, 37, 38, 40] [(0, .slice (some a2) a1.length a4), (3, .int .i64 a0), (4, .pointer (some ⟨a3, 0, none⟩)), (21, .int .i64 a0), (22, .bool (false)), (23, .bool (false)), (33, .bool (false)), (36, .pointer (some ⟨a3, 1, none⟩)), (37, .int .i64 ((a1.getD a0.toNat zS69).f1)), (38, .bool (decide (((a1.getD a0.toNat zS69).f1) < 0))), (40, .bool (decide (((a1.getD a0.toNat zS69).f1) < 0)))] (by kernel_rfl) ?_
         refine ED.as' [(0, .slice (some a2) a1.length a4), (3, .int .i64 a0), (4, .pointer (some ⟨a3, 0, none⟩)), (21, .int .i64 a0), (22, .bool (false)), (23, .bool (false)), (33, .bool (false)), (36, .pointer (some ⟨a3, 1, none⟩)), (37, .int .i64 ((a1.getD a0.toNat zS69).f1)), (38, .bool (false)), (40, .bool (false))] (by simp only [dec_f c1, Bool.not_true, Bool.not_false]) ?_
         refine ED.quick hN hF hC [24] [0, 3, 4, 21, 22, 23, 33, 36, 37, 38, 40, 41] 8 [(0, .slice (some a2) a1.length a4), (3, .int .i64 a0), (4, .pointer (some ⟨a3, 0, none⟩)), (21, .int .i64 a0), (22, .bool (false)), (23, .bool (false)), (33, .bool (false)), (36, .pointer (some ⟨a3, 1, none⟩)), (37, .int .i64 ((a1.getD a0.toNat zS69).f1)), (38, .bool (false)), (40, .bool (false)), (41, .pointer (some ⟨a3, 2, none⟩))] #[true, true, true, true, true, true, true, true, true, true, true, true, true, true, true, true, true, true, true, true, true, true, true, true, true, false, false, false, false, false, false, false, false] (by kernel_rfl) (by kernel_rfl) ?_
         refine ED.Y hN hF hC 25 7 #[true, true, true, true, true, true, true, true, true, true, true, true, true, true, true, true, true, true, true, true, true, true, true, true, true, true, false, false, false, false, false, false, false] (by kernel_rfl) (by kernel_rfl) rfl (fun _ _ _ hS => YO.loadBox hS 0 rfl 3 2 1 (.int .i64 ((a1.getD a0.toNat zS69).f2)) 42 (by kernel_rfl) (by kernel_rfl) (by kernel_rfl) (by kernel_rfl)) ?_
         refine ED.quick hN hF hC [26, 27, 28] [0, 3, 4, 21, 22, 23, 33, 36, 37, 38, 41, 42, 43, 45] 4 [(0, .slice (some a2) a1.length a4), (3, .int .i64 a0), (4, .pointer (some ⟨a3, 0, none⟩)), (21, .int .i64 a0), (22, .bool (false)), (23, .bool (false)), (33, .bool (false)), (36, .pointer (some ⟨a3, 1, none⟩)), (37, .int .i64 ((a1.getD a0.toNat zS69).f1)), (38, .bool (false)), (41, .pointer (some ⟨a3, 2, none⟩)), (42, .int .i64 ((a1.getD a0.toNat zS69).f2)), (43, .bool (decide (((a1.getD a0.toNat zS69).f2) < 0))), (45, .bool (decide (((a1.getD a0.toNat zS69).f2) < 0)))] #[true, true, true, true, true, true, true, true, true, true, true, true, true, true, true, true, true, true, true, true, true, true, true, true, true, true, true, true, true, false, false, false, false] (by kernel_rfl) (by kernel_rfl) ?_
         refine ED.keep [0, 3, 4, 21, 22, 23, 33, 36, 37, 38, 41, 42, 43, 45] [(0, .slice (some a2) a1.length a4), (3, .int .i64 a0), (4, .pointer (some ⟨a3, 0, none⟩)), (21, .int .i64 a0), (22, .bool (false)), (23, .bool (false)), (33, .bool (false)), (36, .pointer (some ⟨a3, 1, none⟩)), (37, .int .i64 ((a1.getD a0.toNat zS69).f1)), (38, .bool (false)), (41, .pointer (some ⟨a3, 2, none⟩)), (42, .int .i64 ((a1.getD a0.toNat zS69).f2)), (43, .bool (decide (((a1.getD a0.toNat zS69).f2) < 0))), (45, .bool (decide (((a1.getD a0.toNat zS69).f2) < 0)))] (by kernel_rfl) ?_
         refine ED.as' [(0, .slice (some a2) a1.length a4), (3, .int .i64 a0), (4, .pointer (some ⟨a3, 0, none⟩)), (21, .int .i64 a0), (22, .bool (false)), (23, .bool (false)), (33, .bool (false)), (36, .pointer (some ⟨a3, 1, none⟩)), (37, .int .i64 ((a1.getD a0.toNat zS69).f1)), (38, .bool (false)), (41, .pointer (some ⟨a3, 2, none⟩)), (42, .int .i64 ((a1.getD a0.toNat zS69).f2)), (43, .bool (false)), (45, .bool (false))] (by simp only [dec_f c3, Bool.not_true, Bool.not_false]) ?_
         refine ED.quick hN hF hC [29] [0, 3, 4, 21, 22, 23, 33, 36, 37, 38, 41, 42, 43, 45, 46] 3 [(0, .slice (some a2) a1.length a4), (3, .int .i64 a0), (4, .pointer (some ⟨a3, 0, none⟩)), (21, .int .i64 a0), (22, .bool (false)), (23, .bool (false)), (33, .bool (false)), (36, .pointer (some ⟨a3, 1, none⟩)), (37, .int .i64 ((a1.getD a0.toNat zS69).f1)), (38, .bool (false)), (41, .pointer (some ⟨a3, 2, none⟩)), (42, .int .i64 ((a1.getD a0.toNat zS69).f2)), (43, .bool (false)), (45, .bool (false)), (46, .pointer (some ⟨a3, 5, none⟩))] #[true, true, true, true, true, true, true, true, true, true, true, true, true, true, true, true, true, true, true, true, true, true, true, true, true, true, true, true, true, true, false, false, false] (by kernel_rfl) (by kernel_rfl) ?_
         refine ED.Y hN hF hC 30 2 #[true, true, true, true, true, true, true, true, true, true, true, true, true, true, true, true, true, true, true, true, true, true, true, true, true, true, true, true, true, true, true, false, false] (by kernel_rfl) (by kernel_rfl) rfl (fun _ _ _ hS => YO.loadBox hS 0 rfl 21 5 1 (.int .i32 ((a1.getD a0.toNat zS69).f5)) 47 (by kernel_rfl) (by kernel_rfl) (by kernel_rfl) (by kernel_rfl)) ?_
         refine ED.quick hN hF hC [31, 32] [0, 3, 4, 21, 22, 23, 33, 36, 37, 38, 41, 42, 43, 46, 47, 48, 49] 0 [(0, .slice (some a2) a1.length a4), (3, .int .i64 a0), (4, .pointer (some ⟨a3, 0, none⟩)), (21, .int .i64 a0), (22, .bool (false)), (23, .bool (false)), (33, .bool (false)), (36, .pointer (some ⟨a3, 1, none⟩)), (37, .int .i64 ((a1.getD a0.toNat zS69).f1)), (38, .bool (false)), (41, .pointer (some ⟨a3, 2, none⟩)), (42, .int .i64 ((a1.getD a0.toNat zS69).f2)), (43, .bool (false)), (46, .pointer (some ⟨a3, 5, none⟩)), (47, .int .i32 ((a1.getD a0.toNat zS69).f5)), (48, .bool (decide (((a1.getD a0.toNat zS69).f5) < 0))), (49, .bool (decide (((a1.getD a0.toNat zS69).f5) < 0)))] #[true, true, true, true, true, true, true, true, true, true, true, true, true, true, true, true, true, true, true, true, true, true, true, true, true, true, true, true, true, true, true, true, true] (by kernel_rfl) (by kernel_rfl) ?_
         refine ED.done (by kernel_rfl) ?_
         refine EQ.to ?_
         refine EQ.keep [0, 3, 4, 49] [(0, .slice (some a2) a1.length a4), (3, .int .i64 a0), (4, .pointer (some ⟨a3, 0, none⟩)), (49, .bool (decide (((a1.getD a0.toNat zS69).f5) < 0)))] (by kernel_rfl) ?_
         exact fun a ha => ⟨decide (((a1.getD a0.toNat zS69).f5) < 0), ha, (hS.re [0] [] rfl (sub_cons 0 rfl (sub_tail (sub_self)))), H⟩
    ·obtain ⟨b9, ha, hS, H⟩ := hI
     rw [d5] at H
     (try dsimp only at H)
     refine EW.at ?_ a ha
     clear ha a
     refine EW.condP' (o := (.tmp 49)) (x := Cd32.r.l.r.l.l.r.l.l.r.l.r.l) (y := Cd32.r.l.r.l.l.r.l.l.r.l.r.r) (b9) (by kernel_rfl) (by kernel_rfl) (fun c6 => ?_) (fun c6 => ?_)
     ·rw [if_pos c6] at H
      refine EW.seq (x := Cd32.r.l.r.l.l.r.l.l.r.l.r.l.l) (y := Cd32.r.l.r.l.l.r.l.l.r.l.r.l.r) (by kernel_rfl) ?_
      refine EW.region (id := 6) (ops := Cd32.r.l.r.l.l.r.l.l.r.l.r.l.l.ops) (by kernel_rfl) ?_
      refine EL.quick 1 [2] [(2, .bool (false))] (by kernel_rfl) ?_
      refine EL.done (by kernel_rfl) ?_
      refine EQ.code ?_
      refine EW.ret (by kernel_rfl) ?_
      refine EQ.ret ?_
      refine EQ.ret ?_
      refine EQ.ret ?_
      refine EQ.ret ?_
      refine EQ.ret ?_
      refine EQ.ret ?_
      obtain rfl := Option.some.inj H
      exact EQ.leave (.bool (false)) (by kernel_rfl) ⟨_, rfl, rfl, (hS.re [] [0] rfl (sub_self))⟩
     ·rw [if_neg c6] at H
      refine EW.skip (by kernel_rfl) ?_
      refine EQ.code ?_
      refine EW.seq (x := Cd32.r.l.r.l.l.r.l.l.r.r.l) (y := Cd32.r.l.r.l.l.r.l.l.r.r.r) (by kernel_rfl) ?_
      refine EW.region (id := 7) (ops := Cd32.r.l.r.l.l.r.l.l.r.r.l.ops) (by kernel_rfl) ?_
      refine EL.quick 1 [0, 3, 4, 5] [(0, .slice (some a2) a1.length a4), (3, .int .i64 a0), (4, .pointer (some ⟨a3, 0, none⟩)), (5, .int .i64 0)] (by kernel_rfl) ?_
      refine EL.done (by kernel_rfl) ?_
      refine EQ.code ?_
      obtain ⟨b6, d6, H⟩ := lt_out H
      refine EW.cut (x := Cd32.r.l.r.l.l.r.l.l.r.r.r.l) (y := Cd32.r.l.r.l.l.r.l.l.r.r.r.r) (fun a w => ∃ b1 : Int, Sat 69 [(0, .slice (some a2) a1.length a4), (3, .int .i64 a0), (4, .pointer (some ⟨a3, 0, none⟩)), (5, .int .i64 b1)] a ∧ St B w (Ass.box 69 a3 [.int .i64 ((a1.getD a0.toNat zS69).f0), .int .i64 ((a1.getD a0.toNat zS69).f1), .int .i64 ((a1.getD a0.toNat zS69).f2), .int .i32 ((a1.getD a0.toNat zS69).f3), .int .i64 ((a1.getD a0.toNat zS69).f4), .int .i32 ((a1.getD a0.toNat zS69).f5)] :: os) (Ro.sl kS69 (some a2) a4 a1 :: rs) ∧ b6 b1 = some b4) (by kernel_rfl) ?_ (fun a w hI => ?_)
      ·refine EW.seq (x := Cd32.r.l.r.l.l.r.l.l.r.r.r.l.l) (y := Cd32.r.l.r.l.l.r.l.l.r.r.r.l.r) (by kernel_rfl) ?_
       refine EW.region (id := 8) (ops := Cd32.r.l.r.l.l.r.l.l.r.r.r.l.l.ops) (by kernel_rfl) ?_
       refine EL.quick 1 [0, 3, 4, 5, 6] [(0, .slice (some a2) a1.length a4), (3, .int .i64 a0), (4, .pointer (some ⟨a3, 0, none⟩)), (5, .int .i64 0), (6, .int .i64 0)] (by kernel_rfl) ?_
       refine EL.done (by kernel_rfl) ?_
       refine EQ.code ?_
       refine EW.block (x := Cd32.r.l.r.l.l.r.l.l.r.r.r.l.r.l) (id := 2) (by kernel_rfl) ?_
       refine EW.loop (x := Cd32.r.l.r.l.l.r.l.l.r.r.r.l.r.l.l) (fun n a w => ∃ a6 : Int, ∃ a5 : Int, Sat 69 [(0, .slice (some a2) a1.length a4), (3, .int .i64 a0), (4, .pointer (some ⟨a3, 0, none⟩)), (5, .int .i64 a6), (6, .int .i64 a5)] a ∧ St B w (Ass.box 69 a3 [.int .i64 ((a1.getD a0.toNat zS69).f0), .int .i64 ((a1.getD a0.toNat zS69).f1), .int .i64 ((a1.getD a0.toNat zS69).f2), .int .i32 ((a1.getD a0.toNat zS69).f3), .int .i64 ((a1.getD a0.toNat zS69).f4), .int .i32 ((a1.getD a0.toNat zS69).f5)] :: os) (Ro.sl kS69 (some a2) a4 a1 :: rs) ∧ confidantref21_AuditRight.l1 K a0 a1 b6 n a6 a5 = some b4) K (by kernel_rfl) ?_ (fun n a w hI => ?_)
       ·refine EQ.keep [0, 3, 4, 5, 6] [(0, .slice (some a2) a1.length a4), (3, .int .i64 a0), (4, .pointer (some ⟨a3, 0, none⟩)), (5, .int .i64 0), (6, .int .i64 0)] (by kernel_rfl) ?_
        exact fun a ha => ⟨0, 0, ha, (hS.re [0] [] rfl (sub_cons 0 rfl (sub_tail (sub_self)))), H⟩
       ·obtain ⟨a6, a5, ha, hS, H⟩ := hI
        obtain _ | n := n
        ·simp [confidantref21_AuditRight.l1] at H
        rw [confidantref21_AuditRight.l1.eq_2] at H
        refine EW.at ?_ a ha
        clear ha a
        refine EW.seq (x := Cd32.r.l.r.l.l.r.l.l.r.r.r.l.r.l.l.l) (y := Cd32.r.l.r.l.l.r.l.l.r.r.r.l.r.l.l.r) (by kernel_rfl) ?_
        refine EW.seq (x := Cd32.r.l.r.l.l.r.l.l.r.r.r.l.r.l.l.l.l) (y := Cd32.r.l.r.l.l.r.l.l.r.r.r.l.r.l.l.l.r) (by kernel_rfl) ?_
        refine EW.region (id := 9) (ops := Cd32.r.l.r.l.l.r.l.l.r.r.r.l.r.l.l.l.l.ops) (by kernel_rfl) ?_
        refine EL.quick 3 [0, 3, 4, 5, 6, 52] [(0, .slice (some a2) a1.length a4), (3, .int .i64 a0), (4, .pointer (some ⟨a3, 0, none⟩)), (5, .int .i64 a6), (6, .int .i64 a5), (52, .bool (decide (a5 < a0)))] (by kernel_rfl) ?_
        refine EL.done (by kernel_rfl) ?_
        refine EQ.code ?_
        refine EW.condP (o := (.tmp 52)) (x := Cd32.r.l.r.l.l.r.l.l.r.r.r.l.r.l.l.l.r.l) (y := Cd32.r.l.r.l.l.r.l.l.r.r.r.l.r.l.l.l.r.r) (a5 < a0) (by kernel_rfl) (by kernel_rfl) (fun c7 => ?_) (fun c7 => ?_)
        ·rw [if_pos c7] at H
         refine EW.skip (by kernel_rfl) ?_
         refine EQ.code ?_
         obtain ⟨c4, d7, H⟩ := lt_out H
         refine EW.cut (x := Cd32.r.l.r.l.l.r.l.l.r.r.r.l.r.l.l.r.l) (y := Cd32.r.l.r.l.l.r.l.l.r.r.r.l.r.l.l.r.r) (fun a w => ∃ b5 : Int, Sat 69 [(0, .slice (some a2) a1.length a4), (3, .int .i64 a0), (4, .pointer (some ⟨a3, 0, none⟩)), (5, .int .i64 b5), (6, .int .i64 a5)] a ∧ St B w (Ass.box 69 a3 [.int .i64 ((a1.getD a0.toNat zS69).f0), .int .i64 ((a1.getD a0.toNat zS69).f1), .int .i64 ((a1.getD a0.toNat zS69).f2), .int .i32 ((a1.getD a0.toNat zS69).f3), .int .i64 ((a1.getD a0.toNat zS69).f4), .int .i32 ((a1.getD a0.toNat zS69).f5)] :: os) (Ro.sl kS69 (some a2) a4 a1 :: rs) ∧ c4 b5 = some b4) (by kernel_rfl) ?_ (fun a w hI => ?_)
         ·refine EW.block (x := Cd32.r.l.r.l.l.r.l.l.r.r.r.l.r.l.l.r.l.l) (id := 3) (by kernel_rfl) ?_
          refine EW.seq (x := Cd32.r.l.r.l.l.r.l.l.r.r.r.l.r.l.l.r.l.l.l) (y := Cd32.r.l.r.l.l.r.l.l.r.r.r.l.r.l.l.r.l.l.r) (by kernel_rfl) ?_
          obtain ⟨d2, H⟩ := ite_in H
          obtain ⟨d3, H⟩ := ite_in H
          have hS := hS.drew
          refine EW.draw (B := B) (id := 11) (ops := Cd32.r.l.r.l.l.r.l.l.r.r.r.l.r.l.l.r.l.l.l.ops) [Ass.box 69 a3 [.int .i64 ((a1.getD a0.toNat zS69).f0), .int .i64 ((a1.getD a0.toNat zS69).f1), .int .i64 ((a1.getD a0.toNat zS69).f2), .int .i32 ((a1.getD a0.toNat zS69).f3), .int .i64 ((a1.getD a0.toNat zS69).f4), .int .i32 ((a1.getD a0.toNat zS69).f5)]] [Ro.sl kS69 (some a2) a4 a1] (by kernel_rfl) (by kernel_rfl) ?_
          have hN : Region.noSelect Cd32.r.l.r.l.l.r.l.l.r.r.r.l.r.l.l.r.l.l.l.ops = true := (by kernel_rfl)
          have hF : freeAll Cd32.r.l.r.l.l.r.l.l.r.r.r.l.r.l.l.r.l.l.l.ops = true := (by kernel_rfl)
          have hC : Core B [Ass.box 69 a3 [.int .i64 ((a1.getD a0.toNat zS69).f0), .int .i64 ((a1.getD a0.toNat zS69).f1), .int .i64 ((a1.getD a0.toNat zS69).f2), .int .i32 ((a1.getD a0.toNat zS69).f3), .int .i64 ((a1.getD a0.toNat zS69).f4), .int .i32 ((a1.getD a0.toNat zS69).f5)]] [Ro.sl kS69 (some a2) a4 a1] _ := ⟨_, _, hS⟩
          refine ED.quick hN hF hC [0, 1, 5] [0, 3, 4, 5, 6, 55, 56, 60] 5 [(0, .slice (some a2) a1.length a4), (3, .int .i64 a0), (4, .pointer (some ⟨a3, 0, none⟩)), (5, .int .i64 a6), (6, .int .i64 a5), (55, .slice (some a2) a1.length a4), (56, .int .i64 a5), (60, .pointer (some ⟨a3, 2, none⟩))] #[true, true, false, false, false, true, false, false] (by kernel_rfl) (by kernel_rfl) ?_
          refine ED.Y hN hF hC 2 4 #[true, true, true, false, false, true, false, false] (by kernel_rfl) (by kernel_rfl) rfl (fun _ _ _ hS => YO.idx 64 6 a2 a1.length a4 .i64 a5 57 (by kernel_rfl) (by kernel_rfl) (by kernel_rfl) (by kernel_rfl) d2 d3) ?_
          refine ED.quick hN hF hC [3] [0, 3, 4, 5, 6, 58, 60] 3 [(0, .slice (some a2) a1.length a4), (3, .int .i64 a0), (4, .pointer (some ⟨a3, 0, none⟩)), (5, .int .i64 a6), (6, .int .i64 a5), (58, .pointer (some ((a2.add (a5.toNat * 6)).add 2))), (60, .pointer (some ⟨a3, 2, none⟩))] #[true, true, true, true, false, true, false, false] (by kernel_rfl) (by kernel_rfl) ?_
          refine ED.Y hN hF hC 4 2 #[true, true, true, true, true, true, false, false] (by kernel_rfl) (by kernel_rfl) rfl (fun _ _ _ hS => YO.loadEl hS kS69 a2 a4 a1 (Rd.ro 0 rfl) zS69 encS69 encS69_of a5 d2 d3 3 6 2 1 rfl (.int .i64 ((a1.getD a5.toNat zS69).f2)) 59 (by kernel_rfl) (by kernel_rfl) (by kernel_rfl) (by kernel_rfl)) ?_
          refine ED.Y hN hF hC 6 1 #[true, true, true, true, true, true, true, false] (by kernel_rfl) (by kernel_rfl) rfl (fun _ _ _ hS => YO.loadBox hS 0 rfl 3 2 1 (.int .i64 ((a1.getD a0.toNat zS69).f2)) 61 (by kernel_rfl) (by kernel_rfl) (by kernel_rfl) (by kernel_rfl)) ?_
          refine ED.quick hN hF hC [7] [0, 3, 4, 5, 6, 62] 0 [(0, .slice (some a2) a1.length a4), (3, .int .i64 a0), (4, .pointer (some ⟨a3, 0, none⟩)), (5, .int .i64 a6), (6, .int .i64 a5), (62, .bool (decide (((a1.getD a5.toNat zS69).f2) = ((a1.getD a0.toNat zS69).f2))))] #[true, true, true, true, true, true, true, true] (by kernel_rfl) (by kernel_rfl) ?_
          refine ED.done (by kernel_rfl) ?_
          refine EQ.code ?_
          refine EW.condP (o := (.tmp 62)) (x := Cd32.r.l.r.l.l.r.l.l.r.r.r.l.r.l.l.r.l.l.r.l) (y := Cd32.r.l.r.l.l.r.l.l.r.r.r.l.r.l.l.r.l.l.r.r) (((a1.getD a5.toNat zS69).f2) = ((a1.getD a0.toNat zS69).f2)) (by kernel_rfl) (by kernel_rfl) (fun c8 => ?_) (fun c8 => ?_)
          ·rw [if_pos c8] at H
           refine EW.region (id := 12) (ops := Cd32.r.l.r.l.l.r.l.l.r.r.r.l.r.l.l.r.l.l.r.l.ops) (by kernel_rfl) ?_
           refine EL.quick 3 [0, 3, 4, 5, 6] [(0, .slice (some a2) a1.length a4), (3, .int .i64 a0), (4, .pointer (some ⟨a3, 0, none⟩)), (5, .int .i64 (IntKind.i64.wrap (a6 + 1))), (6, .int .i64 a5)] (by kernel_rfl) ?_
           refine EL.done (by kernel_rfl) ?_
           refine EQ.pop ?_
           refine EQ.to ?_
           refine EQ.keep [0, 3, 4, 5, 6] [(0, .slice (some a2) a1.length a4), (3, .int .i64 a0), (4, .pointer (some ⟨a3, 0, none⟩)), (5, .int .i64 (IntKind.i64.wrap (a6 + 1))), (6, .int .i64 a5)] (by kernel_rfl) ?_
           exact fun a ha => ⟨IntKind.i64.wrap (a6 + 1), ha, (hS.re [0] [] rfl (sub_cons 0 rfl (sub_tail (sub_self)))), H⟩
          ·rw [if_neg c8] at H
           refine EW.skip (by kernel_rfl) ?_
           refine EQ.pop ?_
           refine EQ.to ?_
           refine EQ.keep [0, 3, 4, 5, 6] [(0, .slice (some a2) a1.length a4), (3, .int .i64 a0), (4, .pointer (some ⟨a3, 0, none⟩)), (5, .int .i64 a6), (6, .int .i64 a5)] (by kernel_rfl) ?_
           exact fun a ha => ⟨a6, ha, (hS.re [0] [] rfl (sub_cons 0 rfl (sub_tail (sub_self)))), H⟩
         ·obtain ⟨b5, ha, hS, H⟩ := hI
          rw [d7] at H
          (try dsimp only at H)
          refine EW.at ?_ a ha
          clear ha a
          refine EW.region (id := 10) (ops := Cd32.r.l.r.l.l.r.l.l.r.r.r.l.r.l.l.r.r.ops) (by kernel_rfl) ?_
          refine EL.quick 3 [0, 3, 4, 5, 6] [(0, .slice (some a2) a1.length a4), (3, .int .i64 a0), (4, .pointer (some ⟨a3, 0, none⟩)), (5, .int .i64 b5), (6, .int .i64 (IntKind.i64.wrap (a5 + 1)))] (by kernel_rfl) ?_
          refine EL.done (by kernel_rfl) ?_
          refine EQ.to ?_
          refine EQ.keep [0, 3, 4, 5, 6] [(0, .slice (some a2) a1.length a4), (3, .int .i64 a0), (4, .pointer (some ⟨a3, 0, none⟩)), (5, .int .i64 b5), (6, .int .i64 (IntKind.i64.wrap (a5 + 1)))] (by kernel_rfl) ?_
          exact fun a ha => ⟨n, Nat.lt_succ_self n, b5, IntKind.i64.wrap (a5 + 1), ha, (hS.re [0] [] rfl (sub_cons 0 rfl (sub_tail (sub_self)))), H⟩
        ·rw [if_neg c7] at H
         refine EW.exit (id := 2) (by kernel_rfl) ?_
         refine EQ.exitCode ?_
         refine EQ.exitTo ?_
         refine EQ.exitHere ?_
         refine EQ.to ?_
         refine EQ.keep [0, 3, 4, 5] [(0, .slice (some a2) a1.length a4), (3, .int .i64 a0), (4, .pointer (some ⟨a3, 0, none⟩)), (5, .int .i64 a6)] (by kernel_rfl) ?_
         exact fun a ha => ⟨a6, ha, (hS.re [0] [] rfl (sub_cons 0 rfl (sub_tail (sub_self)))), H⟩
      ·obtain ⟨b1, ha, hS, H⟩ := hI
       rw [d6] at H
       (try dsimp only at H)
       refine EW.at ?_ a ha
       clear ha a
       refine EW.seq (x := Cd32.r.l.r.l.l.r.l.l.r.r.r.r.l) (y := Cd32.r.l.r.l.l.r.l.l.r.r.r.r.r) (by kernel_rfl) ?_
       refine EW.region (id := 13) (ops := Cd32.r.l.r.l.l.r.l.l.r.r.r.r.l.ops) (by kernel_rfl) ?_
       refine EL.quick 1 [0, 3, 5, 65] [(0, .slice (some a2) a1.length a4), (3, .int .i64 a0), (5, .int .i64 b1), (65, .pointer (some ⟨a3, 0, none⟩))] (by kernel_rfl) ?_
       refine EL.of (EO.Y (YO.loadBox hS 0 rfl 3 0 1 (.int .i64 ((a1.getD a0.toNat zS69).f0)) 66 (by kernel_rfl) (by kernel_rfl) (by kernel_rfl) (by kernel_rfl)) ?_)
       refine EL.quick 2 [0, 3, 68] [(0, .slice (some a2) a1.length a4), (3, .int .i64 a0), (68, .bool (!(decide (((a1.getD a0.toNat zS69).f0) = b1))))] (by kernel_rfl) ?_
       refine EL.done (by kernel_rfl) ?_
       refine EQ.code ?_
       refine EW.condQ (b := !(decide (((a1.getD a0.toNat zS69).f0) = b1))) (o := (.tmp 68)) (x := Cd32.r.l.r.l.l.r.l.l.r.r.r.r.r.l) (y := Cd32.r.l.r.l.l.r.l.l.r.r.r.r.r.r) (((a1.getD a0.toNat zS69).f0) = b1) (false) (by kernel_rfl) (by kernel_rfl) ⟨fun h => (by rw [decide_eq_true h] <;> rfl), fun h => (by rw [decide_eq_false h] <;> rfl)⟩ (fun c9 => ?_) (fun c9 => ?_)
       ·rw [if_pos c9] at H
        refine EW.skip (by kernel_rfl) ?_
        refine EQ.pop ?_
        refine EQ.to ?_
        refine EQ.keep [0, 3] [(0, .slice (some a2) a1.length a4), (3, .int .i64 a0)] (by kernel_rfl) ?_
        exact fun a ha => ⟨a3, ha, (hS.re [0] [] rfl (sub_cons 0 rfl (sub_tail (sub_self)))), H⟩
       ·rw [if_neg c9] at H
        refine EW.seq (x := Cd32.r.l.r.l.l.r.l.l.r.r.r.r.r.l.l) (y := Cd32.r.l.r.l.l.r.l.l.r.r.r.r.r.l.r) (by kernel_rfl) ?_
        refine EW.region (id := 14) (ops := Cd32.r.l.r.l.l.r.l.l.r.r.r.r.r.l.l.ops) (by kernel_rfl) ?_
        refine EL.quick 1 [2] [(2, .bool (false))] (by kernel_rfl) ?_
        refine EL.done (by kernel_rfl) ?_
        refine EQ.code ?_
        refine EW.ret (by kernel_rfl) ?_
        refine EQ.ret ?_
        refine EQ.ret ?_
        refine EQ.ret ?_
        refine EQ.ret ?_
        refine EQ.ret ?_
        obtain rfl := Option.some.inj H
        exact EQ.leave (.bool (false)) (by kernel_rfl) ⟨_, rfl, rfl, (hS.re [] [0] rfl (sub_self))⟩
   ·obtain ⟨d1, ha, hS, H⟩ := hI
    rw [d4] at H
    (try dsimp only at H)
    refine EW.at ?_ a ha
    clear ha a
    refine EW.region (id := 3) (ops := Cd32.r.l.r.l.l.r.r.ops) (by kernel_rfl) ?_
    refine EL.quick 3 [0, 3] [(0, .slice a7 a1.length a4), (3, .int .i64 (IntKind.i64.wrap (a0 + 1)))] (by kernel_rfl) ?_
    refine EL.done (by kernel_rfl) ?_
    refine EQ.to ?_
    refine EQ.keep [0, 3] [(0, .slice a7 a1.length a4), (3, .int .i64 (IntKind.i64.wrap (a0 + 1)))] (by kernel_rfl) ?_
    exact fun a ha => ⟨n, Nat.lt_succ_self n, IntKind.i64.wrap (a0 + 1), ha, (hS.re [] [0] rfl (sub_cons 0 rfl (sub_tail (sub_self)))), H⟩
  ·rw [if_neg b7] at H
   refine EW.exit (id := 0) (by kernel_rfl) ?_
   refine EQ.exitCode ?_
   refine EQ.exitTo ?_
   refine EQ.exitHere ?_
   refine EQ.code ?_
   refine EW.seq (x := Cd32.r.r.l) (y := Cd32.r.r.r) (by kernel_rfl) ?_
   refine EW.region (id := 15) (ops := Cd32.r.r.l.ops) (by kernel_rfl) ?_
   refine EL.quick 1 [2] [(2, .bool (true))] (by kernel_rfl) ?_
   refine EL.done (by kernel_rfl) ?_
   refine EQ.code ?_
   refine EW.ret (by kernel_rfl) ?_
   obtain rfl := Option.some.inj H
   exact EQ.leave (.bool (true)) (by kernel_rfl) ⟨_, rfl, rfl, (hS.re [] [] rfl (sub_self))⟩

/-! ### confidant/confidantref1.Put: function 52 -/
def confidantref1_Put.l1 (K : Nat) (b9 : (List Int) → Option (List Int)) : Nat → (List Int) → Int → Option (List Int)
 | 0, _, _ => none
 | n + 1, a9, a7 => if a7 > 0 then (lt ([bO .u8 (IntKind.u8.wrap (bA .u64 a7 127)) 128] : List Int) fun c6 => (if (c6.length + a9.length) * 1 ≤ 140737488355328 then (lt (c6 ++ a9) fun b6 => (confidantref1_Put.l1 K b9 n b6 (sR .u64 a7 7))) else none)) else (b9 a9)
def confidantref1_Put.l0 (K : Nat) (a0 : List Int) : Nat → (List Int) → Int → Option (List Int)
 | 0, _, _ => none
 | n + 1, a3, a1 => if a1 < (a0.length : Int) then (lt (fun (b3 : List Int) (d1 : List Int) => (confidantref1_Put.l0 K a0 n b3 (IntKind.i64.wrap (a1 + 1)))) fun d3 => (if 0 ≤ a1 then (lt ([IntKind.u8.wrap (bA .u64 (a0.getD a1.toNat 0) 127)] : List Int) fun b5 => (lt (fun (b0 : List Int) => (if (a3.length + b0.length) * 1 ≤ 140737488355328 then (lt (a3 ++ b0) fun c0 => (d3 c0 b0)) else none)) fun b9 => (confidantref1_Put.l1 K b9 K b5 (sR .u64 (a0.getD a1.toNat 0) 7)))) else none)) else (some a3)
def confidantref1_Put.f (K : Nat) (a0 : List Int) : Option (List Int) := confidantref1_Put.l0 K a0 K ([] : List Int) 0
set_option maxRecDepth 100000 in
theorem confidantref1_Put.calls {K : Nat} {a0 : List Int} {a8 : Option Addr} {a2 : Nat} {c1 : List Int} {B w : World} {os : List Ass} {rs : List Ro} (H : confidantref1_Put.f K a0 = some c1) (hS : St B w (os) (Ro.sl (Kd.int .u64) a8 a2 a0 :: rs)) :
  Calls Try.prog 52 [.slice a8 a0.length a2].toArray w (fun en w' => ∃ v, en = .returned v ∧ ∃ d4 : Option Addr, ∃ d6 : Nat, v = .slice d4 c1.length d6 ∧ St B w' (Ass.own 5 (Kd.int .u8) d4 d6 c1 :: os) (Ro.sl (Kd.int .u64) a8 a2 a0 :: rs)) := by
 unfold confidantref1_Put.f at H
 refine calls_of_EW (args := [.slice a8 a0.length a2]) (c := Cd52) 40 Try.func52 (by kernel_rfl) (by kernel_rfl) (by kernel_rfl) ?_
 refine EW.seq (x := Cd52.l) (y := Cd52.r) (by kernel_rfl) ?_
 refine EW.region (id := 0) (ops := Cd52.l.ops) (by kernel_rfl) ?_
 refine EL.quick 1 [0] [(0, .slice a8 a0.length a2)] (by kernel_rfl) ?_
 refine EL.done (by kernel_rfl) ?_
 refine EQ.code ?_
 refine EW.seq (x := Cd52.r.l) (y := Cd52.r.r) (by kernel_rfl) ?_
 refine EW.region (id := 1) (ops := Cd52.r.l.ops) (by kernel_rfl) ?_
 refine EL.quick 1 [0, 3] [(0, .slice a8 a0.length a2), (3, .slice none ([] : List Int).length 0)] (by kernel_rfl) ?_
 refine EL.done (by kernel_rfl) ?_
 refine EQ.code ?_
 refine EW.seq (x := Cd52.r.r.l) (y := Cd52.r.r.r) (by kernel_rfl) ?_
 refine EW.seq (x := Cd52.r.r.l.l) (y := Cd52.r.r.l.r) (by kernel_rfl) ?_
 refine EW.region (id := 2) (ops := Cd52.r.r.l.l.ops) (by kernel_rfl) ?_
 refine EL.quick 1 [0, 3, 4] [(0, .slice a8 a0.length a2), (3, .slice none ([] : List Int).length 0), (4, .int .i64 0)] (by kernel_rfl) ?_
 refine EL.done (by kernel_rfl) ?_
 refine EQ.code ?_
 refine EW.block (x := Cd52.r.r.l.r.l) (id := 0) (by kernel_rfl) ?_
 have hS := St.nilO hS 5 (Kd.int .u8)
 refine EW.loop (x := Cd52.r.r.l.r.l.l) (fun n a w => ∃ a3 : List Int, ∃ a1 : Int, ∃ a4 : Option Addr, ∃ a5 : Nat, Sat 40 [(0, .slice a8 a0.length a2), (3, .slice a4 a3.length a5), (4, .int .i64 a1)] a ∧ St B w (Ass.own 5 (Kd.int .u8) a4 a5 a3 :: os) (Ro.sl (Kd.int .u64) a8 a2 a0 :: rs) ∧ confidantref1_Put.l0 K a0 n a3 a1 = some c1) K (by kernel_rfl) ?_ (fun n a w hI => ?_)
 ·refine EQ.keep [0, 3, 4] [(0, .slice a8 a0.length a2), (3, .slice none ([] : List Int).length 0), (4, .int .i64 0)] (by kernel_rfl) ?_
  exact fun a ha => ⟨([] : List Int), 0, none, 0, ha, (hS.re [0] [] rfl (sub_cons 0 rfl (sub_tail (sub_self)))), H⟩
 ·obtain ⟨a3, a1, a4, a5, ha, hS, H⟩ := hI
  obtain _ | n := n
  ·simp [confidantref1_Put.l0] at H
  rw [confidantref1_Put.l0.eq_2] at H
  refine EW.at ?_ a ha
  clear ha a
  refine EW.seq (x := Cd52.r.r.l.r.l.l.l) (y := Cd52.r.r.l.r.l.l.r) (by kernel_rfl) ?_
  refine EW.seq (x := Cd52.r.r.l.r.l.l.l.l) (y := Cd52.r.r.l.r.l.l.l.r) (by kernel_rfl) ?_
  refine EW.region (id := 3) (ops := Cd52.r.r.l.r.l.l.l.l.ops) (by kernel_rfl) ?_
  refine EL.quick 4 [0, 3, 4, 10] [(0, .slice a8 a0.length a2), (3, .slice a4 a3.length a5), (4, .int .i64 a1), (10, .bool (decide (a1 < (a0.length : Int))))] (by kernel_rfl) ?_
  refine EL.done (by kernel_rfl) ?_
  refine EQ.code ?_
  refine EW.condP (o := (.tmp 10)) (x := Cd52.r.r.l.r.l.l.l.r.l) (y := Cd52.r.r.l.r.l.l.l.r.r) (a1 < (a0.length : Int)) (by kernel_rfl) (by kernel_rfl) (fun b4 => ?_) (fun b4 => ?_)
  ·rw [if_pos b4] at H
   refine EW.skip (by kernel_rfl) ?_
   refine EQ.code ?_
   obtain ⟨d3, e3, H⟩ := lt_out H
   refine EW.cut (x := Cd52.r.r.l.r.l.l.r.l) (y := Cd52.r.r.l.r.l.l.r.r) (fun a w => ∃ b3 : List Int, ∃ d1 : List Int, ∃ c2 : Option Addr, ∃ c4 : Nat, ∃ d5 : Option Addr, ∃ d7 : Nat, Sat 40 [(0, .slice a8 a0.length a2), (3, .slice c2 b3.length c4), (4, .int .i64 a1)] a ∧ St B w (Ass.own 5 (Kd.int .u8) c2 c4 b3 :: Ass.own 5 (Kd.int .u8) d5 d7 d1 :: os) (Ro.sl (Kd.int .u64) a8 a2 a0 :: rs) ∧ d3 b3 d1 = some c1) (by kernel_rfl) ?_ (fun a w hI => ?_)
   ·refine EW.block (x := Cd52.r.r.l.r.l.l.r.l.l) (id := 1) (by kernel_rfl) ?_
    refine EW.seq (x := Cd52.r.r.l.r.l.l.r.l.l.l) (y := Cd52.r.r.l.r.l.l.r.l.l.r) (by kernel_rfl) ?_
    refine EW.region (id := 5) (ops := Cd52.r.r.l.r.l.l.r.l.l.l.ops) (by kernel_rfl) ?_
    refine EL.quick 2 [0, 3, 4, 13, 14] [(0, .slice a8 a0.length a2), (3, .slice a4 a3.length a5), (4, .int .i64 a1), (13, .slice a8 a0.length a2), (14, .int .i64 a1)] (by kernel_rfl) ?_
    obtain ⟨d0, H⟩ := ite_in H
    obtain ⟨a6, rfl⟩ := St.rd_some hS (Rd.ro 0 rfl) d0 b4
    refine EL.of (EO.Y (YO.idx 134 1 a6 a0.length a2 .i64 a1 15 (by kernel_rfl) (by kernel_rfl) (by kernel_rfl) (by kernel_rfl) d0 b4) ?_)
    refine EL.of (EO.Y (YO.loadEl hS (Kd.int .u64) a6 a2 a0 (Rd.ro 0 rfl) 0 (encI .u64) encI_of a1 d0 b4 116 1 0 1 rfl (.int .u64 (a0.getD a1.toNat 0)) 16 (by kernel_rfl) (by kernel_rfl) (by kernel_rfl) (by kernel_rfl)) ?_)
    refine EL.quick 2 [0, 3, 4, 18] [(0, .slice (some a6) a0.length a2), (3, .slice a4 a3.length a5), (4, .int .i64 a1), (18, .int .u8 (IntKind.u8.wrap (bA .u64 (a0.getD a1.toNat 0) 127)))] (by kernel_rfl) ?_
    obtain ⟨b5, d9, H⟩ := lt_out H
    refine EL.of (EO.lit hS (Kd.int .u8) 5 75 1 #[(0, .int .u8 (IntKind.u8.wrap (bA .u64 (a0.getD a1.toNat 0) 127)))] [.int .u8 (IntKind.u8.wrap (bA .u64 (a0.getD a1.toNat 0) 127))] b5 19 (by kernel_rfl) (by kernel_rfl) (by kernel_rfl) (fun _ => (by kernel_rfl)) (by rw [d9]; rfl) (by kernel_rfl) (fun w G hr => (by rw [d9]; exact ⟨[.int .u8 (IntKind.u8.wrap (bA .u64 (a0.getD a1.toNat 0) 127))], [], rfl, rfl, rfl⟩)) ?_)
    intro c9 w hS
    refine EL.quick 1 [0, 3, 4, 5] [(0, .slice (some a6) a0.length a2), (3, .slice a4 a3.length a5), (4, .int .i64 a1), (5, .slice (some ⟨c9, 0, none⟩) b5.length 1)] (by kernel_rfl) ?_
    refine EL.done (by kernel_rfl) ?_
    refine EQ.code ?_
    obtain ⟨b9, e4, H⟩ := lt_out H
    refine EW.cut (x := Cd52.r.r.l.r.l.l.r.l.l.r.l) (y := Cd52.r.r.l.r.l.l.r.l.l.r.r) (fun a w => ∃ b0 : List Int, ∃ b7 : Option Addr, ∃ b8 : Nat, Sat 40 [(0, .slice (some a6) a0.length a2), (3, .slice a4 a3.length a5), (4, .int .i64 a1), (5, .slice b7 b0.length b8)] a ∧ St B w (Ass.own 5 (Kd.int .u8) a4 a5 a3 :: Ass.own 5 (Kd.int .u8) b7 b8 b0 :: os) (Ro.sl (Kd.int .u64) (some a6) a2 a0 :: rs) ∧ b9 b0 = some c1) (by kernel_rfl) ?_ (fun a w hI => ?_)
    ·refine EW.seq (x := Cd52.r.r.l.r.l.l.r.l.l.r.l.l) (y := Cd52.r.r.l.r.l.l.r.l.l.r.l.r) (by kernel_rfl) ?_
     refine EW.region (id := 6) (ops := Cd52.r.r.l.r.l.l.r.l.l.r.l.l.ops) (by kernel_rfl) ?_
     refine EL.quick 2 [0, 3, 4, 5, 20, 21] [(0, .slice (some a6) a0.length a2), (3, .slice a4 a3.length a5), (4, .int .i64 a1), (5, .slice (some ⟨c9, 0, none⟩) b5.length 1), (20, .slice (some a6) a0.length a2), (21, .int .i64 a1)] (by kernel_rfl) ?_
     refine EL.of (EO.Y (YO.idx 134 1 a6 a0.length a2 .i64 a1 22 (by kernel_rfl) (by kernel_rfl) (by kernel_rfl) (by kernel_rfl) d0 b4) ?_)
     refine EL.of (EO.Y (YO.loadEl hS (Kd.int .u64) a6 a2 a0 (Rd.ro 0 rfl) 0 (encI .u64) encI_of a1 d0 b4 116 1 0 1 rfl (.int .u64 (a0.getD a1.toNat 0)) 23 (by kernel_rfl) (by kernel_rfl) (by kernel_rfl) (by kernel_rfl)) ?_)
     refine EL.quick 2 [0, 3, 4, 5, 6] [(0, .slice (some a6) a0.length a2), (3, .slice a4 a3.length a5), (4, .int .i64 a1), (5, .slice (some ⟨c9, 0, none⟩) b5.length 1), (6, .int .u64 (sR .u64 (a0.getD a1.toNat 0) 7))] (by kernel_rfl) ?_
     refine EL.done (by kernel_rfl) ?_
     refine EQ.code ?_
     refine EW.block (x := Cd52.r.r.l.r.l.l.r.l.l.r.l.r.l) (id := 2) (by kernel_rfl) ?_
     refine EW.loop (x := Cd52.r.r.l.r.l.l.r.l.l.r.l.r.l.l) (fun n a w => ∃ a9 : List Int, ∃ a7 : Int, ∃ b1 : Option Addr, ∃ b2 : Nat, Sat 40 [(0, .slice (some a6) a0.length a2), (3, .slice a4 a3.length a5), (4, .int .i64 a1), (5, .slice b1 a9.length b2), (6, .int .u64 a7)] a ∧ St B w (Ass.own 5 (Kd.int .u8) a4 a5 a3 :: Ass.own 5 (Kd.int .u8) b1 b2 a9 :: os) (Ro.sl (Kd.int .u64) (some a6) a2 a0 :: rs) ∧ confidantref1_Put.l1 K b9 n a9 a7 = some c1) K (by kernel_rfl) ?_ (fun n a w hI => ?_)
     ·refine EQ.keep [0, 3, 4, 5, 6] [(0, .slice (some a6) a0.length a2), (3, .slice a4 a3.length a5), (4, .int .i64 a1), (5, .slice (some ⟨c9, 0, none⟩) b5.length 1), (6, .int .u64 (sR .u64 (a0.getD a1.toNat 0) 7))] (by kernel_rfl) ?_
      exact fun a ha => ⟨b5, sR .u64 (a0.getD a1.toNat 0) 7, (some ⟨c9, 0, none⟩), 1, ha, (hS.re [0, 1] [] rfl (sub_cons 0 rfl (sub_tail (sub_self)))), H⟩
     ·obtain ⟨a9, a7, b1, b2, ha, hS, H⟩ := hI
      obtain _ | n := n
      ·simp [confidantref1_Put.l1] at H
      rw [confidantref1_Put.l1.eq_2] at H
      refine EW.at ?_ a ha
      clear ha a
      refine EW.seq (x := Cd52.r.r.l.r.l.l.r.l.l.r.l.r.l.l.l) (y := Cd52.r.r.l.r.l.l.r.l.l.r.l.r.l.l.r) (by kernel_rfl) ?_
      refine EW.seq (x := Cd52.r.r.l.r.l.l.r.l.l.r.l.r.l.l.l.l) (y := Cd52.r.r.l.r.l.l.r.l.l.r.l.r.l.l.l.r) (by kernel_rfl) ?_
      refine EW.region (id := 7) (ops := Cd52.r.r.l.r.l.l.r.l.l.r.l.r.l.l.l.l.ops) (by kernel_rfl) ?_
      refine EL.quick 2 [0, 3, 4, 5, 6, 26] [(0, .slice (some a6) a0.length a2), (3, .slice a4 a3.length a5), (4, .int .i64 a1), (5, .slice b1 a9.length b2), (6, .int .u64 a7), (26, .bool (decide (a7 > 0)))] (by kernel_rfl) ?_
      refine EL.done (by kernel_rfl) ?_
      refine EQ.code ?_
      refine EW.condP (o := (.tmp 26)) (x := Cd52.r.r.l.r.l.l.r.l.l.r.l.r.l.l.l.r.l) (y := Cd52.r.r.l.r.l.l.r.l.l.r.l.r.l.l.l.r.r) (a7 > 0) (by kernel_rfl) (by kernel_rfl) (fun d2 => ?_) (fun d2 => ?_)
      ·rw [if_pos d2] at H
       refine EW.skip (by kernel_rfl) ?_
       refine EQ.code ?_
       refine EW.seq (x := Cd52.r.r.l.r.l.l.r.l.l.r.l.r.l.l.r.l) (y := Cd52.r.r.l.r.l.l.r.l.l.r.l.r.l.l.r.r) (by kernel_rfl) ?_
       refine EW.block (x := Cd52.r.r.l.r.l.l.r.l.l.r.l.r.l.l.r.l.l) (id := 3) (by kernel_rfl) ?_
       refine EW.region (id := 9) (ops := Cd52.r.r.l.r.l.l.r.l.l.r.l.r.l.l.r.l.l.ops) (by kernel_rfl) ?_
       refine EL.quick 4 [0, 3, 4, 5, 6, 32] [(0, .slice (some a6) a0.length a2), (3, .slice a4 a3.length a5), (4, .int .i64 a1), (5, .slice b1 a9.length b2), (6, .int .u64 a7), (32, .int .u8 (bO .u8 (IntKind.u8.wrap (bA .u64 a7 127)) 128))] (by kernel_rfl) ?_
       obtain ⟨c6, e0, H⟩ := lt_out H
       refine EL.of (EO.lit hS (Kd.int .u8) 5 75 1 #[(0, .int .u8 (bO .u8 (IntKind.u8.wrap (bA .u64 a7 127)) 128))] [.int .u8 (bO .u8 (IntKind.u8.wrap (bA .u64 a7 127)) 128)] c6 33 (by kernel_rfl) (by kernel_rfl) (by kernel_rfl) (fun _ => (by kernel_rfl)) (by rw [e0]; rfl) (by kernel_rfl) (fun w G hr => (by rw [e0]; exact ⟨[.int .u8 (bO .u8 (IntKind.u8.wrap (bA .u64 a7 127)) 128)], [], rfl, rfl, rfl⟩)) ?_)
       intro d8 w hS
       refine EL.quick 1 [0, 3, 4, 6, 33, 34] [(0, .slice (some a6) a0.length a2), (3, .slice a4 a3.length a5), (4, .int .i64 a1), (6, .int .u64 a7), (33, .slice (some ⟨d8, 0, none⟩) c6.length 1), (34, .slice b1 a9.length b2)] (by kernel_rfl) ?_
       obtain ⟨e1, H⟩ := ite_in H
       obtain ⟨b6, e5, H⟩ := lt_out H
       refine EL.of (EO.append hS 75 75 5 1 0 (Kd.int .u8) (some ⟨d8, 0, none⟩) 1 c6 rfl b1 b2 a9 (Rd.own 2 5 rfl) b6 e5 (fun c3 c5 => Ass.own 5 (Kd.int .u8) c3 c5 b6 :: Ass.own 5 (Kd.int .u8) a4 a5 a3 :: Ass.own 5 (Kd.int .u8) b1 b2 a9 :: os) 35 (by kernel_rfl) (by kernel_rfl) (by kernel_rfl) (by kernel_rfl) e1 (fun _ _ => rfl) ?_)
       intro c3 c5 w hS
       refine EL.quick 1 [0, 3, 4, 5, 6] [(0, .slice (some a6) a0.length a2), (3, .slice a4 a3.length a5), (4, .int .i64 a1), (5, .slice c3 b6.length c5), (6, .int .u64 a7)] (by kernel_rfl) ?_
       refine EL.done (by kernel_rfl) ?_
       refine EQ.pop ?_
       refine EQ.code ?_
       refine EW.region (id := 8) (ops := Cd52.r.r.l.r.l.l.r.l.l.r.l.r.l.l.r.r.ops) (by kernel_rfl) ?_
       refine EL.quick 3 [0, 3, 4, 5, 6] [(0, .slice (some a6) a0.length a2), (3, .slice a4 a3.length a5), (4, .int .i64 a1), (5, .slice c3 b6.length c5), (6, .int .u64 (sR .u64 a7 7))] (by kernel_rfl) ?_
       refine EL.done (by kernel_rfl) ?_
       refine EQ.to ?_
       refine EQ.keep [0, 3, 4, 5, 6] [(0, .slice (some a6) a0.length a2), (3, .slice a4 a3.length a5), (4, .int .i64 a1), (5, .slice c3 b6.length c5), (6, .int .u64 (sR .u64 a7 7))] (by kernel_rfl) ?_
       exact fun a ha => ⟨n, Nat.lt_succ_self n, b6, sR .u64 a7 7, c3, c5, ha, (hS.re [0, 1] [2] rfl (sub_cons 0 rfl (sub_tail (sub_self)))), H⟩
      ·rw [if_neg d2] at H
       refine EW.exit (id := 2) (by kernel_rfl) ?_
       refine EQ.exitCode ?_
       refine EQ.exitTo ?_
       refine EQ.exitHere ?_
       refine EQ.to ?_
       refine EQ.keep [0, 3, 4, 5] [(0, .slice (some a6) a0.length a2), (3, .slice a4 a3.length a5), (4, .int .i64 a1), (5, .slice b1 a9.length b2)] (by kernel_rfl) ?_
       exact fun a ha => ⟨a9, b1, b2, ha, (hS.re [1, 1] [] rfl (sub_cons 0 rfl (sub_tail (sub_self)))), H⟩
    ·obtain ⟨b0, b7, b8, ha, hS, H⟩ := hI
     rw [e4] at H
     (try dsimp only at H)
     refine EW.at ?_ a ha
     clear ha a
     refine EW.region (id := 10) (ops := Cd52.r.r.l.r.l.l.r.l.l.r.r.ops) (by kernel_rfl) ?_
     refine EL.quick 2 [0, 4, 36, 37] [(0, .slice (some a6) a0.length a2), (4, .int .i64 a1), (36, .slice a4 a3.length a5), (37, .slice b7 b0.length b8)] (by kernel_rfl) ?_
     obtain ⟨e2, H⟩ := ite_in H
     obtain ⟨c0, e6, H⟩ := lt_out H
     refine EL.of (EO.append hS 75 75 5 1 0 (Kd.int .u8) a4 a5 a3 rfl b7 b8 b0 (Rd.own 1 5 rfl) c0 e6 (fun c7 c8 => Ass.own 5 (Kd.int .u8) c7 c8 c0 :: Ass.own 5 (Kd.int .u8) b7 b8 b0 :: os) 38 (by kernel_rfl) (by kernel_rfl) (by kernel_rfl) (by kernel_rfl) e2 (fun _ _ => rfl) ?_)
     intro c7 c8 w hS
     refine EL.quick 1 [0, 3, 4] [(0, .slice (some a6) a0.length a2), (3, .slice c7 c0.length c8), (4, .int .i64 a1)] (by kernel_rfl) ?_
     refine EL.done (by kernel_rfl) ?_
     refine EQ.pop ?_
     refine EQ.to ?_
     refine EQ.keep [0, 3, 4] [(0, .slice (some a6) a0.length a2), (3, .slice c7 c0.length c8), (4, .int .i64 a1)] (by kernel_rfl) ?_
     exact fun a ha => ⟨c0, b0, c7, c8, b7, b8, ha, (hS.re [1, 1] [] rfl (sub_cons 0 rfl (sub_tail (sub_self)))), H⟩
   ·obtain ⟨b3, d1, c2, c4, d5, d7, ha, hS, H⟩ := hI
    rw [e3] at H
    (try dsimp only at H)
    refine EW.at ?_ a ha
    clear ha a
    refine EW.region (id := 4) (ops := Cd52.r.r.l.r.l.l.r.r.ops) (by kernel_rfl) ?_
    refine EL.quick 3 [0, 3, 4] [(0, .slice a8 a0.length a2), (3, .slice c2 b3.length c4), (4, .int .i64 (IntKind.i64.wrap (a1 + 1)))] (by kernel_rfl) ?_
    refine EL.done (by kernel_rfl) ?_
    refine EQ.to ?_
    refine EQ.keep [0, 3, 4] [(0, .slice a8 a0.length a2), (3, .slice c2 b3.length c4), (4, .int .i64 (IntKind.i64.wrap (a1 + 1)))] (by kernel_rfl) ?_
    exact fun a ha => ⟨n, Nat.lt_succ_self n, b3, IntKind.i64.wrap (a1 + 1), c2, c4, ha, (hS.re [0] [1] rfl (sub_cons 0 rfl (sub_tail (sub_self)))), H⟩
  ·rw [if_neg b4] at H
   refine EW.exit (id := 0) (by kernel_rfl) ?_
   refine EQ.exitCode ?_
   refine EQ.exitTo ?_
   refine EQ.exitHere ?_
   refine EQ.code ?_
   refine EW.seq (x := Cd52.r.r.r.l) (y := Cd52.r.r.r.r) (by kernel_rfl) ?_
   refine EW.region (id := 11) (ops := Cd52.r.r.r.l.ops) (by kernel_rfl) ?_
   refine EL.quick 2 [2] [(2, .slice a4 a3.length a5)] (by kernel_rfl) ?_
   refine EL.done (by kernel_rfl) ?_
   refine EQ.code ?_
   refine EW.ret (by kernel_rfl) ?_
   obtain rfl := Option.some.inj H
   exact EQ.leave (.slice a4 a3.length a5) (by kernel_rfl) ⟨_, rfl, a4, a5, rfl, (hS.re [0] [] rfl (sub_self))⟩

/-! ### confidant/confidantref1.Int: function 53 -/
def confidantref1_Int.f (K : Nat) (a0 : Int) : Option Int := some (IntKind.u64.wrap (IntKind.u32.wrap a0))
set_option maxRecDepth 100000 in
theorem confidantref1_Int.calls {K : Nat} {a0 : Int} {a1 : Int} {B w : World} {os : List Ass} {rs : List Ro} (H : confidantref1_Int.f K a0 = some a1) (hS : St B w (os) (rs)) :
  Calls Try.prog 53 [.int .i32 a0].toArray w (fun en w' => ∃ v, en = .returned v ∧ v = .int .u64 a1 ∧ St B w' (os) (rs)) := by
 unfold confidantref1_Int.f at H
 refine calls_of_EW (args := [.int .i32 a0]) (c := Cd53) 6 Try.func53 (by kernel_rfl) (by kernel_rfl) (by kernel_rfl) ?_
 refine EW.seq (x := Cd53.l) (y := Cd53.r) (by kernel_rfl) ?_
 refine EW.region (id := 0) (ops := Cd53.l.ops) (by kernel_rfl) ?_
 refine EL.quick 1 [0] [(0, .int .i32 a0)] (by kernel_rfl) ?_
 refine EL.done (by kernel_rfl) ?_
 refine EQ.code ?_
 refine EW.seq (x := Cd53.r.l) (y := Cd53.r.r) (by kernel_rfl) ?_
 refine EW.region (id := 1) (ops := Cd53.r.l.ops) (by kernel_rfl) ?_
 refine EL.quick 4 [2] [(2, .int .u64 (IntKind.u64.wrap (IntKind.u32.wrap a0)))] (by kernel_rfl) ?_
 refine EL.done (by kernel_rfl) ?_
 refine EQ.code ?_
 refine EW.ret (by kernel_rfl) ?_
 obtain rfl := Option.some.inj H
 exact EQ.leave (.int .u64 (IntKind.u64.wrap (IntKind.u32.wrap a0))) (by kernel_rfl) ⟨_, rfl, rfl, (hS.re [] [] rfl (sub_self))⟩

/-! ### confidant/confidantref21.AuditPut: function 34 -/
def confidantref21_AuditPut.l0 (K : Nat) (a0 : List S69) : Nat → (List Int) → Int → Option (List Int)
 | 0, _, _ => none
 | n + 1, a7, a1 => if a1 < (a0.length : Int) then (if 0 ≤ a1 then (b1 (confidantref1_Int.f K ((a0.getD a1.toNat zS69).f3)) fun (b3 : Int) => (lt ([IntKind.u64.wrap ((a0.getD a1.toNat zS69).f0), IntKind.u64.wrap ((a0.getD a1.toNat zS69).f1), IntKind.u64.wrap ((a0.getD a1.toNat zS69).f2), b3, IntKind.u64.wrap ((a0.getD a1.toNat zS69).f4), IntKind.u64.wrap ((a0.getD a1.toNat zS69).f5)] : List Int) fun b7 => (b1 (confidantref1_Put.f K b7) fun (c0 : List Int) => (if (a7.length + c0.length) * 1 ≤ 140737488355328 then (lt (a7 ++ c0) fun b2 => (confidantref21_AuditPut.l0 K a0 n b2 (IntKind.i64.wrap (a1 + 1)))) else none)))) else none) else (some a7)
def confidantref21_AuditPut.f (K : Nat) (a0 : List S69) : Option (List Int) := b1 (confidantref21_AuditRight.f K a0) fun (b9 : Bool) => (if b9 = true then (lt ([IntKind.u64.wrap (a0.length : Int)] : List Int) fun a6 => (b1 (confidantref1_Put.f K a6) fun (b8 : List Int) => (confidantref21_AuditPut.l0 K a0 K b8 0))) else (some ([] : List Int)))
set_option maxRecDepth 100000 in
theorem confidantref21_AuditPut.calls {K : Nat} {a0 : List S69} {a5 : Option Addr} {a2 : Nat} {c3 : List Int} {B w : World} {os : List Ass} {rs : List Ro} (H : confidantref21_AuditPut.f K a0 = some c3) (hS : St B w (os) (Ro.sl kS69 a5 a2 a0 :: rs)) :
  Calls Try.prog 34 [.slice a5 a0.length a2].toArray w (fun en w' => ∃ v, en = .returned v ∧ ∃ c7 : Option Addr, ∃ c9 : Nat, v = .slice c7 c3.length c9 ∧ St B w' (Ass.own 5 (Kd.int .u8) c7 c9 c3 :: os) (Ro.sl kS69 a5 a2 a0 :: rs)) := by
 unfold confidantref21_AuditPut.f at H
 refine calls_of_EW (args := [.slice a5 a0.length a2]) (c := Cd34) 47 Try.func34 (by kernel_rfl) (by kernel_rfl) (by kernel_rfl) ?_
 refine EW.seq (x := Cd34.l) (y := Cd34.r) (by kernel_rfl) ?_
 refine EW.region (id := 0) (ops := Cd34.l.ops) (by kernel_rfl) ?_
 refine EL.quick 1 [0] [(0, .slice a5 a0.length a2)] (by kernel_rfl) ?_
 refine EL.done (by kernel_rfl) ?_
 refine EQ.code ?_
 refine EW.seq (x := Cd34.r.l) (y := Cd34.r.r) (by kernel_rfl) ?_
 refine EW.seq (x := Cd34.r.l.l) (y := Cd34.r.l.r) (by kernel_rfl) ?_
 refine EW.region (id := 1) (ops := Cd34.r.l.l.ops) (by kernel_rfl) ?_
 refine EL.quick 1 [0, 6] [(0, .slice a5 a0.length a2), (6, .slice a5 a0.length a2)] (by kernel_rfl) ?_
 have hS : St B _ (os) (Ro.sl kS69 a5 a2 a0 :: Ro.sl kS69 a5 a2 a0 :: rs) := hS.re [] [] rfl (sub_cons 0 rfl sub_self)
 obtain ⟨b9, d4, H⟩ := b1_out H
 refine EL.of (EO.callD 32 [.slice a5 a0.length a2] _ 7 (by kernel_rfl) (by kernel_rfl) (by kernel_rfl) (confidantref21_AuditRight.calls d4 hS) ?_)
 rintro v w ⟨rfl, hS⟩
 refine EL.quick 1 [0, 8] [(0, .slice a5 a0.length a2), (8, .bool (!(b9)))] (by kernel_rfl) ?_
 refine EL.done (by kernel_rfl) ?_
 refine EQ.code ?_
 refine EW.condQ (b := !(b9)) (o := (.tmp 8)) (x := Cd34.r.l.r.l) (y := Cd34.r.l.r.r) (b9 = true) (false) (by kernel_rfl) (by kernel_rfl) ⟨fun h => (by rw [h] <;> rfl), fun h => (by rw [Bool.eq_false_iff.2 h] <;> rfl)⟩ (fun c5 => ?_) (fun c5 => ?_)
 ·rw [if_pos c5] at H
  refine EW.skip (by kernel_rfl) ?_
  refine EQ.code ?_
  refine EW.seq (x := Cd34.r.r.l) (y := Cd34.r.r.r) (by kernel_rfl) ?_
  refine EW.region (id := 3) (ops := Cd34.r.r.l.ops) (by kernel_rfl) ?_
  refine EL.quick 3 [0, 11] [(0, .slice a5 a0.length a2), (11, .int .u64 (IntKind.u64.wrap (a0.length : Int)))] (by kernel_rfl) ?_
  obtain ⟨a6, d1, H⟩ := lt_out H
  refine EL.of (EO.lit hS (Kd.int .u64) 116 134 1 #[(0, .int .u64 (IntKind.u64.wrap (a0.length : Int)))] [.int .u64 (IntKind.u64.wrap (a0.length : Int))] a6 12 (by kernel_rfl) (by kernel_rfl) (by kernel_rfl) (fun _ => (by kernel_rfl)) (by rw [d1]; rfl) (by kernel_rfl) (fun w G hr => (by rw [d1]; exact ⟨[.int .u64 (IntKind.u64.wrap (a0.length : Int))], [], rfl, rfl, rfl⟩)) ?_)
  intro a8 w hS
  have hS := St.fr hS 0 rfl
  have hS : St B _ (os) (Ro.sl (Kd.int .u64) (some ⟨a8, 0, none⟩) 1 a6 :: Ro.sl (Kd.int .u64) (some ⟨a8, 0, none⟩) 1 a6 :: Ro.sl kS69 a5 a2 a0 :: Ro.sl kS69 a5 a2 a0 :: rs) := hS.re [] [] rfl (sub_cons 0 rfl sub_self)
  obtain ⟨b8, d5, H⟩ := b1_out H
  refine EL.of (EO.callD 52 [.slice (some ⟨a8, 0, none⟩) a6.length 1] _ 13 (by kernel_rfl) (by kernel_rfl) (by kernel_rfl) (confidantref1_Put.calls d5 hS) ?_)
  rintro v w ⟨c1, c2, rfl, hS⟩
  refine EL.quick 1 [0, 3] [(0, .slice a5 a0.length a2), (3, .slice c1 b8.length c2)] (by kernel_rfl) ?_
  refine EL.done (by kernel_rfl) ?_
  refine EQ.code ?_
  refine EW.seq (x := Cd34.r.r.r.l) (y := Cd34.r.r.r.r) (by kernel_rfl) ?_
  refine EW.seq (x := Cd34.r.r.r.l.l) (y := Cd34.r.r.r.l.r) (by kernel_rfl) ?_
  refine EW.region (id := 4) (ops := Cd34.r.r.r.l.l.ops) (by kernel_rfl) ?_
  refine EL.quick 1 [0, 3, 4] [(0, .slice a5 a0.length a2), (3, .slice c1 b8.length c2), (4, .int .i64 0)] (by kernel_rfl) ?_
  refine EL.done (by kernel_rfl) ?_
  refine EQ.code ?_
  refine EW.block (x := Cd34.r.r.r.l.r.l) (id := 0) (by kernel_rfl) ?_
  refine EW.loop (x := Cd34.r.r.r.l.r.l.l) (fun n a w => ∃ a7 : List Int, ∃ a1 : Int, ∃ a9 : Option Addr, ∃ b0 : Nat, Sat 47 [(0, .slice a5 a0.length a2), (3, .slice a9 a7.length b0), (4, .int .i64 a1)] a ∧ St B w (Ass.own 5 (Kd.int .u8) a9 b0 a7 :: os) (Ro.sl (Kd.int .u64) (some ⟨a8, 0, none⟩) 1 a6 :: Ro.sl (Kd.int .u64) (some ⟨a8, 0, none⟩) 1 a6 :: Ro.sl kS69 a5 a2 a0 :: Ro.sl kS69 a5 a2 a0 :: rs) ∧ confidantref21_AuditPut.l0 K a0 n a7 a1 = some c3) K (by kernel_rfl) ?_ (fun n a w hI => ?_)
  ·refine EQ.keep [0, 3, 4] [(0, .slice a5 a0.length a2), (3, .slice c1 b8.length c2), (4, .int .i64 0)] (by kernel_rfl) ?_
   exact fun a ha => ⟨b8, 0, c1, c2, ha, (hS.re [0] [] rfl (sub_cons 0 rfl (sub_cons 0 rfl (sub_cons 2 rfl (sub_cons 2 rfl (sub_tail (sub_tail (sub_tail (sub_tail (sub_self)))))))))), H⟩
  ·obtain ⟨a7, a1, a9, b0, ha, hS, H⟩ := hI
   obtain _ | n := n
   ·simp [confidantref21_AuditPut.l0] at H
   rw [confidantref21_AuditPut.l0.eq_2] at H
   refine EW.at ?_ a ha
   clear ha a
   refine EW.seq (x := Cd34.r.r.r.l.r.l.l.l) (y := Cd34.r.r.r.l.r.l.l.r) (by kernel_rfl) ?_
   refine EW.seq (x := Cd34.r.r.r.l.r.l.l.l.l) (y := Cd34.r.r.r.l.r.l.l.l.r) (by kernel_rfl) ?_
   refine EW.region (id := 5) (ops := Cd34.r.r.r.l.r.l.l.l.l.ops) (by kernel_rfl) ?_
   refine EL.quick 4 [0, 3, 4, 17] [(0, .slice a5 a0.length a2), (3, .slice a9 a7.length b0), (4, .int .i64 a1), (17, .bool (decide (a1 < (a0.length : Int))))] (by kernel_rfl) ?_
   refine EL.done (by kernel_rfl) ?_
   refine EQ.code ?_
   refine EW.condP (o := (.tmp 17)) (x := Cd34.r.r.r.l.r.l.l.l.r.l) (y := Cd34.r.r.r.l.r.l.l.l.r.r) (a1 < (a0.length : Int)) (by kernel_rfl) (by kernel_rfl) (fun b6 => ?_) (fun b6 => ?_)
   ·rw [if_pos b6] at H
    refine EW.skip (by kernel_rfl) ?_
    refine EQ.code ?_
    refine EW.seq (x := Cd34.r.r.r.l.r.l.l.r.l) (y := Cd34.r.r.r.l.r.l.l.r.r) (by kernel_rfl) ?_
    refine EW.block (x := Cd34.r.r.r.l.r.l.l.r.l.l) (id := 1) (by kernel_rfl) ?_
    refine EW.seq (x := Cd34.r.r.r.l.r.l.l.r.l.l.l) (y := Cd34.r.r.r.l.r.l.l.r.l.l.r) (by kernel_rfl) ?_
    refine EW.region (id := 7) (ops := Cd34.r.r.r.l.r.l.l.r.l.l.l.ops) (by kernel_rfl) ?_
    refine EL.quick 2 [0, 3, 4, 20, 21] [(0, .slice a5 a0.length a2), (3, .slice a9 a7.length b0), (4, .int .i64 a1), (20, .slice a5 a0.length a2), (21, .int .i64 a1)] (by kernel_rfl) ?_
    obtain ⟨c6, H⟩ := ite_in H
    obtain ⟨a4, rfl⟩ := St.rd_some hS (Rd.ro 2 rfl) c6 b6
    refine EL.of (EO.Y (YO.idx 64 6 a4 a0.length a2 .i64 a1 22 (by kernel_rfl) (by kernel_rfl) (by kernel_rfl) (by kernel_rfl) c6 b6) ?_)
    refine EL.of (EO.Y (YO.loadEl hS kS69 a4 a2 a0 (Rd.ro 2 rfl) zS69 encS69 encS69_of a1 c6 b6 69 6 0 6 rfl (.agg #[.int .i64 ((a0.getD a1.toNat zS69).f0), .int .i64 ((a0.getD a1.toNat zS69).f1), .int .i64 ((a0.getD a1.toNat zS69).f2), .int .i32 ((a0.getD a1.toNat zS69).f3), .int .i64 ((a0.getD a1.toNat zS69).f4), .int .i32 ((a0.getD a1.toNat zS69).f5)]) 23 (by kernel_rfl) (by kernel_rfl) (by kernel_rfl) (by kernel_rfl)) ?_)
    refine EL.of (EO.alloc hS 69 (.agg #[.int .i64 0, .int .i64 0, .int .i64 0, .int .i32 0, .int .i64 0, .int .i32 0]) [.int .i64 0, .int .i64 0, .int .i64 0, .int .i32 0, .int .i64 0, .int .i32 0] 5 (by kernel_rfl) (by kernel_rfl) (by kernel_rfl) (by kernel_rfl) (by first | rfl | kernel_rfl) ?_)
    intro a3 w hS
    refine EL.of (EO.storeBox (os' := Ass.box 69 a3 [.int .i64 ((a0.getD a1.toNat zS69).f0), .int .i64 ((a0.getD a1.toNat zS69).f1), .int .i64 ((a0.getD a1.toNat zS69).f2), .int .i32 ((a0.getD a1.toNat zS69).f3), .int .i64 ((a0.getD a1.toNat zS69).f4), .int .i32 ((a0.getD a1.toNat zS69).f5)] :: Ass.own 5 (Kd.int .u8) a9 b0 a7 :: os) hS 0 rfl 69 0 (.agg #[.int .i64 ((a0.getD a1.toNat zS69).f0), .int .i64 ((a0.getD a1.toNat zS69).f1), .int .i64 ((a0.getD a1.toNat zS69).f2), .int .i32 ((a0.getD a1.toNat zS69).f3), .int .i64 ((a0.getD a1.toNat zS69).f4), .int .i32 ((a0.getD a1.toNat zS69).f5)]) [.int .i64 ((a0.getD a1.toNat zS69).f0), .int .i64 ((a0.getD a1.toNat zS69).f1), .int .i64 ((a0.getD a1.toNat zS69).f2), .int .i32 ((a0.getD a1.toNat zS69).f3), .int .i64 ((a0.getD a1.toNat zS69).f4), .int .i32 ((a0.getD a1.toNat zS69).f5)] (by kernel_rfl) (by kernel_rfl) (by kernel_rfl) (by kernel_rfl) (by kernel_rfl) (by kernel_rfl) rfl rfl ?_)
    intro w hS
    refine EL.done (by kernel_rfl) ?_
    refine EQ.code ?_
    obtain ⟨b3, d6, H⟩ := b1_out H
    obtain ⟨b7, d2, H⟩ := lt_out H
    obtain ⟨c0, d7, H⟩ := b1_out H
    obtain ⟨d3, H⟩ := ite_in H
    obtain ⟨b2, d8, H⟩ := lt_out H
    have hS := hS.drew
    refine EW.draw (B := B) (id := 8) (ops := Cd34.r.r.r.l.r.l.l.r.l.l.r.ops) [Ass.box 69 a3 [.int .i64 ((a0.getD a1.toNat zS69).f0), .int .i64 ((a0.getD a1.toNat zS69).f1), .int .i64 ((a0.getD a1.toNat zS69).f2), .int .i32 ((a0.getD a1.toNat zS69).f3), .int .i64 ((a0.getD a1.toNat zS69).f4), .int .i32 ((a0.getD a1.toNat zS69).f5)]] [Ro.sl (Kd.int .u64) (some ⟨a8, 0, none⟩) 1 a6, Ro.sl (Kd.int .u64) (some ⟨a8, 0, none⟩) 1 a6, Ro.sl kS69 (some a4) a2 a0, Ro.sl kS69 (some a4) a2 a0] (by kernel_rfl) (by kernel_rfl) ?_
    have hN : Region.noSelect Cd34.r.r.r.l.r.l.l.r.l.l.r.ops = true := (by kernel_rfl)
    have hF : freeAll Cd34.r.r.r.l.r.l.l.r.l.l.r.ops = true := (by kernel_rfl)
    have hC : Core B [Ass.box 69 a3 [.int .i64 ((a0.getD a1.toNat zS69).f0), .int .i64 ((a0.getD a1.toNat zS69).f1), .int .i64 ((a0.getD a1.toNat zS69).f2), .int .i32 ((a0.getD a1.toNat zS69).f3), .int .i64 ((a0.getD a1.toNat zS69).f4), .int .i32 ((a0.getD a1.toNat zS69).f5)]] [Ro.sl (Kd.int .u64) (some ⟨a8, 0, none⟩) 1 a6, Ro.sl (Kd.int .u64) (some ⟨a8, 0, none⟩) 1 a6, Ro.sl kS69 (some a4) a2 a0, Ro.sl kS69 (some a4) a2 a0] _ := ⟨_, _, hS⟩
    refine ED.quick hN hF hC [0, 1, 4, 7, 10, 13, 16] [0, 4, 24, 25, 28, 31, 34, 37, 40] 16 [(0, .slice (some a4) a0.length a2), (4, .int .i64 a1), (24, .slice a9 a7.length b0), (25, .pointer (some ⟨a3, 0, none⟩)), (28, .pointer (some ⟨a3, 1, none⟩)), (31, .pointer (some ⟨a3, 2, none⟩)), (34, .pointer (some ⟨a3, 3, none⟩)), (37, .pointer (some ⟨a3, 4, none⟩)), (40, .pointer (some ⟨a3, 5, none⟩))] #[true, true, false, false, true, false, false, true, false, false, true, false, false, true, false, false, true, false, false, false, false, false, false] (by kernel_rfl) (by kernel_rfl) ?_
    refine ED.Y hN hF hC 2 15 #[true, true, true, false, true, false, false, true, false, false, true, false, false, true, false, false, true, false, false, false, false, false, false] (by kernel_rfl) (by kernel_rfl) rfl (fun _ _ _ hS => YO.loadBox hS 0 rfl 3 0 1 (.int .i64 ((a0.getD a1.toNat zS69).f0)) 26 (by kernel_rfl) (by kernel_rfl) (by kernel_rfl) (by kernel_rfl)) ?_
    refine ED.quick hN hF hC [3] [0, 4, 24, 27, 28, 31, 34, 37, 40] 14 [(0, .slice (some a4) a0.length a2), (4, .int .i64 a1), (24, .slice a9 a7.length b0), (27, .int .u64 (IntKind.u64.wrap ((a0.getD a1.toNat zS69).f0))), (28, .pointer (some ⟨a3, 1, none⟩)), (31, .pointer (some ⟨a3, 2, none⟩)), (34, .pointer (some ⟨a3, 3, none⟩)), (37, .pointer (some ⟨a3, 4, none⟩)), (40, .pointer (some ⟨a3, 5, none⟩))] #[true, true, true, true, true, false, false, true, false, false, true, false, false, true, false, false, true, false, false, false, false, false, false] (by kernel_rfl) (by kernel_rfl) ?_
    refine ED.Y hN hF hC 5 13 #[true, true, true, true, true, true, false, true, false, false, true, false, false, true, false, false, true, false, false, false, false, false, false] (by kernel_rfl) (by kernel_rfl) rfl (fun _ _ _ hS => YO.loadBox hS 0 rfl 3 1 1 (.int .i64 ((a0.getD a1.toNat zS69).f1)) 29 (by kernel_rfl) (by kernel_rfl) (by kernel_rfl) (by kernel_rfl)) ?_
    refine ED.quick hN hF hC [6] [0, 4, 24, 27, 30, 31, 34, 37, 40] 12 [(0, .slice (some a4) a0.length a2), (4, .int .i64 a1), (24, .slice a9 a7.length b0), (27, .int .u64 (IntKind.u64.wrap ((a0.getD a1.toNat zS69).f0))), (30, .int .u64 (IntKind.u64.wrap ((a0.getD a1.toNat zS69).f1))), (31, .pointer (some ⟨a3, 2, none⟩)), (34, .pointer (some ⟨a3, 3, none⟩)), (37, .pointer (some ⟨a3, 4, none⟩)), (40, .pointer (some ⟨a3, 5, none⟩))] #[true, true, true, true, true, true, true, true, false, false, true, false, false, true, false, false, true, false, false, false, false, false, false] (by kernel_rfl) (by kernel_rfl) ?_
    refine ED.Y hN hF hC 8 11 #[true, true, true, true, true, true, true, true, true, false, true, false, false, true, false, false, true, false, false, false, false, false, false] (by kernel_rfl) (by kernel_rfl) rfl (fun _ _ _ hS => YO.loadBox hS 0 rfl 3 2 1 (.int .i64 ((a0.getD a1.toNat zS69).f2)) 32 (by kernel_rfl) (by kernel_rfl) (by kernel_rfl) (by kernel_rfl)) ?_
    refine ED.quick hN hF hC [9] [0, 4, 24, 27, 30, 33, 34, 37, 40] 10 [(0, .slice (some a4) a0.length a2), (4, .int .i64 a1), (24, .slice a9 a7.length b0), (27, .int .u64 (IntKind.u64.wrap ((a0.getD a1.toNat zS69).f0))), (30, .int .u64 (IntKind.u64.wrap ((a0.getD a1.toNat zS69).f1))), (33, .int .u64 (IntKind.u64.wrap ((a0.getD a1.toNat zS69).f2))), (34, .pointer (some ⟨a3, 3, none⟩)), (37, .pointer (some ⟨a3, 4, none⟩)), (40, .pointer (some ⟨a3, 5, none⟩))] #[true, true, true, true, true, true, true, true, true, true, true, false, false, true, false, false, true, false, false, false, false, false, false] (by kernel_rfl) (by kernel_rfl) ?_
    refine ED.Y hN hF hC 11 9 #[true, true, true, true, true, true, true, true, true, true, true, true, false, true, false, false, true, false, false, false, false, false, false] (by kernel_rfl) (by kernel_rfl) rfl (fun _ _ _ hS => YO.loadBox hS 0 rfl 21 3 1 (.int .i32 ((a0.getD a1.toNat zS69).f3)) 35 (by kernel_rfl) (by kernel_rfl) (by kernel_rfl) (by kernel_rfl)) ?_
    refine ED.Y hN hF hC 14 8 #[true, true, true, true, true, true, true, true, true, true, true, true, false, true, true, false, true, false, false, false, false, false, false] (by kernel_rfl) (by kernel_rfl) rfl (fun _ _ _ hS => YO.loadBox hS 0 rfl 3 4 1 (.int .i64 ((a0.getD a1.toNat zS69).f4)) 38 (by kernel_rfl) (by kernel_rfl) (by kernel_rfl) (by kernel_rfl)) ?_
    refine ED.quick hN hF hC [15] [0, 4, 24, 27, 30, 33, 35, 39, 40] 7 [(0, .slice (some a4) a0.length a2), (4, .int .i64 a1), (24, .slice a9 a7.length b0), (27, .int .u64 (IntKind.u64.wrap ((a0.getD a1.toNat zS69).f0))), (30, .int .u64 (IntKind.u64.wrap ((a0.getD a1.toNat zS69).f1))), (33, .int .u64 (IntKind.u64.wrap ((a0.getD a1.toNat zS69).f2))), (35, .int .i32 ((a0.getD a1.toNat zS69).f3)), (39, .int .u64 (IntKind.u64.wrap ((a0.getD a1.toNat zS69).f4))), (40, .pointer (some ⟨a3, 5, none⟩))] #[true, true, true, true, true, true, true, true, true, true, true, true, false, true, true, true, true, false, false, false, false, false, false] (by kernel_rfl) (by kernel_rfl) ?_
    refine ED.Y hN hF hC 17 6 #[true, true, true, true, true, true, true, true, true, true, true, true, false, true, true, true, true, true, false, false, false, false, false] (by kernel_rfl) (by kernel_rfl) rfl (fun _ _ _ hS => YO.loadBox hS 0 rfl 21 5 1 (.int .i32 ((a0.getD a1.toNat zS69).f5)) 41 (by kernel_rfl) (by kernel_rfl) (by kernel_rfl) (by kernel_rfl)) ?_
    refine ED.quick hN hF hC [18] [0, 4, 24, 27, 30, 33, 35, 39, 42] 5 [(0, .slice (some a4) a0.length a2), (4, .int .i64 a1), (24, .slice a9 a7.length b0), (27, .int .u64 (IntKind.u64.wrap ((a0.getD a1.toNat zS69).f0))), (30, .int .u64 (IntKind.u64.wrap ((a0.getD a1.toNat zS69).f1))), (33, .int .u64 (IntKind.u64.wrap ((a0.getD a1.toNat zS69).f2))), (35, .int .i32 ((a0.getD a1.toNat zS69).f3)), (39, .int .u64 (IntKind.u64.wrap ((a0.getD a1.toNat zS69).f4))), (42, .int .u64 (IntKind.u64.wrap ((a0.getD a1.toNat zS69).f5)))] #[true, true, true, true, true, true, true, true, true, true, true, true, false, true, true, true, true, true, true, false, false, false, false] (by kernel_rfl) (by kernel_rfl) ?_
    refine ED.one 12 4 #[true, true, true, true, true, true, true, true, true, true, true, true, true, true, true, true, true, true, true, false, false, false, false] (by kernel_rfl) (by kernel_rfl) (by kernel_rfl) (EO.callD 53 [.int .i32 ((a0.getD a1.toNat zS69).f3)] _ 36 (by kernel_rfl) (by kernel_rfl) (by kernel_rfl) (confidantref1_Int.calls d6 hS) ?_)
    rintro v w ⟨rfl, hS⟩
    have hC : Core B [Ass.box 69 a3 [.int .i64 ((a0.getD a1.toNat zS69).f0), .int .i64 ((a0.getD a1.toNat zS69).f1), .int .i64 ((a0.getD a1.toNat zS69).f2), .int .i32 ((a0.getD a1.toNat zS69).f3), .int .i64 ((a0.getD a1.toNat zS69).f4), .int .i32 ((a0.getD a1.toNat zS69).f5)]] [Ro.sl (Kd.int .u64) (some ⟨a8, 0, none⟩) 1 a6, Ro.sl (Kd.int .u64) (some ⟨a8, 0, none⟩) 1 a6, Ro.sl kS69 (some a4) a2 a0, Ro.sl kS69 (some a4) a2 a0] _ := ⟨_, _, hS⟩
    refine ⟨hC, ?_⟩
    refine ED.one 19 3 #[true, true, true, true, true, true, true, true, true, true, true, true, true, true, true, true, true, true, true, true, false, false, false] (by kernel_rfl) (by kernel_rfl) (by kernel_rfl) (EO.lit hS (Kd.int .u64) 116 134 6 #[(0, .int .u64 (IntKind.u64.wrap ((a0.getD a1.toNat zS69).f0))), (1, .int .u64 (IntKind.u64.wrap ((a0.getD a1.toNat zS69).f1))), (2, .int .u64 (IntKind.u64.wrap ((a0.getD a1.toNat zS69).f2))), (3, .int .u64 b3), (4, .int .u64 (IntKind.u64.wrap ((a0.getD a1.toNat zS69).f4))), (5, .int .u64 (IntKind.u64.wrap ((a0.getD a1.toNat zS69).f5)))] [.int .u64 (IntKind.u64.wrap ((a0.getD a1.toNat zS69).f0)), .int .u64 (IntKind.u64.wrap ((a0.getD a1.toNat zS69).f1)), .int .u64 (IntKind.u64.wrap ((a0.getD a1.toNat zS69).f2)), .int .u64 b3, .int .u64 (IntKind.u64.wrap ((a0.getD a1.toNat zS69).f4)), .int .u64 (IntKind.u64.wrap ((a0.getD a1.toNat zS69).f5))] b7 43 (by kernel_rfl) (by kernel_rfl) (by kernel_rfl) (fun _ => (by kernel_rfl)) (by rw [d2]; rfl) (by kernel_rfl) (fun w G hr => (by rw [d2]; exact ⟨[.int .u64 (IntKind.u64.wrap ((a0.getD a1.toNat zS69).f0))], [.int .u64 (IntKind.u64.wrap ((a0.getD a1.toNat zS69).f1)), .int .u64 (IntKind.u64.wrap ((a0.getD a1.toNat zS69).f2)), .int .u64 b3, .int .u64 (IntKind.u64.wrap ((a0.getD a1.toNat zS69).f4)), .int .u64 (IntKind.u64.wrap ((a0.getD a1.toNat zS69).f5))], rfl, rfl, ⟨[.int .u64 (IntKind.u64.wrap ((a0.getD a1.toNat zS69).f1))], [.int .u64 (IntKind.u64.wrap ((a0.getD a1.toNat zS69).f2)), .int .u64 b3, .int .u64 (IntKind.u64.wrap ((a0.getD a1.toNat zS69).f4)), .int .u64 (IntKind.u64.wrap ((a0.getD a1.toNat zS69).f5))], rfl, rfl, ⟨[.int .u64 (IntKind.u64.wrap ((a0.getD a1.toNat zS69).f2))], [.int .u64 b3, .int .u64 (IntKind.u64.wrap ((a0.getD a1.toNat zS69).f4)), .int .u64 (IntKind.u64.wrap ((a0.getD a1.toNat zS69).f5))], rfl, rfl, ⟨[.int .u64 b3], [.int .u64 (IntKind.u64.wrap ((a0.getD a1.toNat zS69).f4)), .int .u64 (IntKind.u64.wrap ((a0.getD a1.toNat zS69).f5))], rfl, rfl, ⟨[.int .u64 (IntKind.u64.wrap ((a0.getD a1.toNat zS69).f4))], [.int .u64 (IntKind.u64.wrap ((a0.getD a1.toNat zS69).f5))], rfl, rfl, ⟨[.int .u64 (IntKind.u64.wrap ((a0.getD a1.toNat zS69).f5))], [], rfl, rfl, rfl⟩⟩⟩⟩⟩⟩)) ?_)
    intro c4 w hS
    have hC : Core B [Ass.box 69 a3 [.int .i64 ((a0.getD a1.toNat zS69).f0), .int .i64 ((a0.getD a1.toNat zS69).f1), .int .i64 ((a0.getD a1.toNat zS69).f2), .int .i32 ((a0.getD a1.toNat zS69).f3), .int .i64 ((a0.getD a1.toNat zS69).f4), .int .i32 ((a0.getD a1.toNat zS69).f5)]] [Ro.sl (Kd.int .u64) (some ⟨a8, 0, none⟩) 1 a6, Ro.sl (Kd.int .u64) (some ⟨a8, 0, none⟩) 1 a6, Ro.sl kS69 (some a4) a2 a0, Ro.sl kS69 (some a4) a2 a0] _ := ⟨_, _, hS.re [1] [] rfl sub_self⟩
    refine ⟨hC, ?_⟩
    have hS := St.fr hS 0 rfl
    have hS : St B _ (Ass.box 69 a3 [.int .i64 ((a0.getD a1.toNat zS69).f0), .int .i64 ((a0.getD a1.toNat zS69).f1), .int .i64 ((a0.getD a1.toNat zS69).f2), .int .i32 ((a0.getD a1.toNat zS69).f3), .int .i64 ((a0.getD a1.toNat zS69).f4), .int .i32 ((a0.getD a1.toNat zS69).f5)] :: Ass.own 5 (Kd.int .u8) a9 b0 a7 :: os) (Ro.sl (Kd.int .u64) (some ⟨c4, 0, none⟩) 6 b7 :: Ro.sl (Kd.int .u64) (some ⟨c4, 0, none⟩) 6 b7 :: Ro.sl (Kd.int .u64) (some ⟨a8, 0, none⟩) 1 a6 :: Ro.sl (Kd.int .u64) (some ⟨a8, 0, none⟩) 1 a6 :: Ro.sl kS69 (some a4) a2 a0 :: Ro.sl kS69 (some a4) a2 a0 :: rs) := hS.re [] [] rfl (sub_cons 0 rfl sub_self)
    refine ED.one 20 2 #[true, true, true, true, true, true, true, true, true, true, true, true, true, true, true, true, true, true, true, true, true, false, false] (by kernel_rfl) (by kernel_rfl) (by kernel_rfl) (EO.callD 52 [.slice (some ⟨c4, 0, none⟩) b7.length 6] _ 44 (by kernel_rfl) (by kernel_rfl) (by kernel_rfl) (confidantref1_Put.calls d7 hS) ?_)
    rintro v w ⟨c8, d0, rfl, hS⟩
    have hC : Core B [Ass.box 69 a3 [.int .i64 ((a0.getD a1.toNat zS69).f0), .int .i64 ((a0.getD a1.toNat zS69).f1), .int .i64 ((a0.getD a1.toNat zS69).f2), .int .i32 ((a0.getD a1.toNat zS69).f3), .int .i64 ((a0.getD a1.toNat zS69).f4), .int .i32 ((a0.getD a1.toNat zS69).f5)]] [Ro.sl (Kd.int .u64) (some ⟨a8, 0, none⟩) 1 a6, Ro.sl (Kd.int .u64) (some ⟨a8, 0, none⟩) 1 a6, Ro.sl kS69 (some a4) a2 a0, Ro.sl kS69 (some a4) a2 a0] _ := ⟨_, _, hS.re [1] [] rfl (sub_cons 2 rfl (sub_cons 2 rfl (sub_cons 4 rfl (sub_cons 4 rfl sub_self))))⟩
    refine ⟨hC, ?_⟩
    refine ED.one 21 1 #[true, true, true, true, true, true, true, true, true, true, true, true, true, true, true, true, true, true, true, true, true, true, false] (by kernel_rfl) (by kernel_rfl) (by kernel_rfl) (EO.append hS 75 75 5 1 2 (Kd.int .u8) a9 b0 a7 rfl c8 d0 c0 (Rd.own 0 5 rfl) b2 d8 (fun b4 b5 => Ass.own 5 (Kd.int .u8) c8 d0 c0 :: Ass.box 69 a3 [.int .i64 ((a0.getD a1.toNat zS69).f0), .int .i64 ((a0.getD a1.toNat zS69).f1), .int .i64 ((a0.getD a1.toNat zS69).f2), .int .i32 ((a0.getD a1.toNat zS69).f3), .int .i64 ((a0.getD a1.toNat zS69).f4), .int .i32 ((a0.getD a1.toNat zS69).f5)] :: Ass.own 5 (Kd.int .u8) b4 b5 b2 :: os) 45 (by kernel_rfl) (by kernel_rfl) (by kernel_rfl) (by kernel_rfl) d3 (fun _ _ => rfl) ?_)
    intro b4 b5 w hS
    have hC : Core B [Ass.box 69 a3 [.int .i64 ((a0.getD a1.toNat zS69).f0), .int .i64 ((a0.getD a1.toNat zS69).f1), .int .i64 ((a0.getD a1.toNat zS69).f2), .int .i32 ((a0.getD a1.toNat zS69).f3), .int .i64 ((a0.getD a1.toNat zS69).f4), .int .i32 ((a0.getD a1.toNat zS69).f5)]] [Ro.sl (Kd.int .u64) (some ⟨a8, 0, none⟩) 1 a6, Ro.sl (Kd.int .u64) (some ⟨a8, 0, none⟩) 1 a6, Ro.sl kS69 (some a4) a2 a0, Ro.sl kS69 (some a4) a2 a0] _ := ⟨_, _, hS.re [1] [] rfl (sub_cons 2 rfl (sub_cons 2 rfl (sub_cons 4 rfl (sub_cons 4 rfl sub_self))))⟩
    refine ⟨hC, ?_⟩
    refine ED.quick hN hF hC [22] [0, 3, 4] 0 [(0, .slice (some a4) a0.length a2), (3, .slice b4 b2.length b5), (4, .int .i64 a1)] #[true, true, true, true, true, true, true, true, true, true, true, true, true, true, true, true, true, true, true, true, true, true, true] (by kernel_rfl) (by kernel_rfl) ?_
    refine ED.done (by kernel_rfl) ?_
    refine EQ.pop ?_
    refine EQ.code ?_
    refine EW.region (id := 6) (ops := Cd34.r.r.r.l.r.l.l.r.r.ops) (by kernel_rfl) ?_
    refine EL.quick 3 [0, 3, 4] [(0, .slice (some a4) a0.length a2), (3, .slice b4 b2.length b5), (4, .int .i64 (IntKind.i64.wrap (a1 + 1)))] (by kernel_rfl) ?_
    refine EL.done (by kernel_rfl) ?_
    refine EQ.to ?_
    refine EQ.keep [0, 3, 4] [(0, .slice (some a4) a0.length a2), (3, .slice b4 b2.length b5), (4, .int .i64 (IntKind.i64.wrap (a1 + 1)))] (by kernel_rfl) ?_
    exact fun a ha => ⟨n, Nat.lt_succ_self n, b2, IntKind.i64.wrap (a1 + 1), b4, b5, ha, (hS.re [2] [1, 1] rfl (sub_cons 2 rfl (sub_cons 2 rfl (sub_cons 4 rfl (sub_cons 4 rfl (sub_tail (sub_tail (sub_tail (sub_tail (sub_tail (sub_tail (sub_self)))))))))))), H⟩
   ·rw [if_neg b6] at H
    refine EW.exit (id := 0) (by kernel_rfl) ?_
    refine EQ.exitCode ?_
    refine EQ.exitTo ?_
    refine EQ.exitHere ?_
    refine EQ.code ?_
    refine EW.seq (x := Cd34.r.r.r.r.l) (y := Cd34.r.r.r.r.r) (by kernel_rfl) ?_
    refine EW.region (id := 9) (ops := Cd34.r.r.r.r.l.ops) (by kernel_rfl) ?_
    refine EL.quick 2 [2] [(2, .slice a9 a7.length b0)] (by kernel_rfl) ?_
    refine EL.done (by kernel_rfl) ?_
    refine EQ.code ?_
    refine EW.ret (by kernel_rfl) ?_
    obtain rfl := Option.some.inj H
    exact EQ.leave (.slice a9 a7.length b0) (by kernel_rfl) ⟨_, rfl, a9, b0, rfl, (hS.re [0] [] rfl (sub_tail (sub_tail (sub_tail (sub_self)))))⟩
 ·rw [if_neg c5] at H
  refine EW.seq (x := Cd34.r.l.r.l.l) (y := Cd34.r.l.r.l.r) (by kernel_rfl) ?_
  refine EW.region (id := 2) (ops := Cd34.r.l.r.l.l.ops) (by kernel_rfl) ?_
  refine EL.quick 1 [2] [(2, .slice none ([] : List Int).length 0)] (by kernel_rfl) ?_
  refine EL.done (by kernel_rfl) ?_
  refine EQ.code ?_
  refine EW.ret (by kernel_rfl) ?_
  refine EQ.ret ?_
  have hS := St.nilO hS 5 (Kd.int .u8)
  obtain rfl := Option.some.inj H
  exact EQ.leave (.slice none ([] : List Int).length 0) (by kernel_rfl) ⟨_, rfl, none, 0, rfl, (hS.re [0] [] rfl (sub_tail (sub_self)))⟩

/-! ### confidant/confidantref21.SameAudit: function 35 -/
def confidantref21_SameAudit.l0 (K : Nat) (a1 : List S69) (a2 : List S69) : Nat → Int → Option Bool
 | 0, _ => none
 | n + 1, a0 => if a0 < (a1.length : Int) then (if 0 ≤ a0 then (if a0 < (a2.length : Int) then (if ((((a1.getD a0.toNat zS69).f0) == ((a2.getD a0.toNat zS69).f0)) && ((((a1.getD a0.toNat zS69).f1) == ((a2.getD a0.toNat zS69).f1)) && ((((a1.getD a0.toNat zS69).f2) == ((a2.getD a0.toNat zS69).f2)) && ((((a1.getD a0.toNat zS69).f3) == ((a2.getD a0.toNat zS69).f3)) && ((((a1.getD a0.toNat zS69).f4) == ((a2.getD a0.toNat zS69).f4)) && ((((a1.getD a0.toNat zS69).f5) == ((a2.getD a0.toNat zS69).f5)) && true)))))) = true then (confidantref21_SameAudit.l0 K a1 a2 n (IntKind.i64.wrap (a0 + 1))) else (some false)) else none) else none) else (some true)
def confidantref21_SameAudit.f (K : Nat) (a1 : List S69) (a2 : List S69) : Option Bool := if (a1.length : Int) = (a2.length : Int) then (confidantref21_SameAudit.l0 K a1 a2 K 0) else (some false)
set_option maxRecDepth 100000 in
theorem confidantref21_SameAudit.calls {K : Nat} {a1 : List S69} {a2 : List S69} {a5 : Option Addr} {a3 : Nat} {a6 : Option Addr} {a4 : Nat} {b4 : Bool} {B w : World} {os : List Ass} {rs : List Ro} (H : confidantref21_SameAudit.f K a1 a2 = some b4) (hS : St B w (os) (Ro.sl kS69 a5 a3 a1 :: Ro.sl kS69 a6 a4 a2 :: rs)) :
  Calls Try.prog 35 [.slice a5 a1.length a3, .slice a6 a2.length a4].toArray w (fun en w' => ∃ v, en = .returned v ∧ v = .bool (b4) ∧ St B w' (os) (Ro.sl kS69 a5 a3 a1 :: Ro.sl kS69 a6 a4 a2 :: rs)) := by
 unfold confidantref21_SameAudit.f at H
 refine calls_of_EW (args := [.slice a5 a1.length a3, .slice a6 a2.length a4]) (c := Cd35) 26 Try.func35 (by kernel_rfl) (by kernel_rfl) (by kernel_rfl) ?_
 refine EW.seq (x := Cd35.l) (y := Cd35.r) (by kernel_rfl) ?_
 refine EW.region (id := 0) (ops := Cd35.l.ops) (by kernel_rfl) ?_
 refine EL.quick 1 [0, 1] [(0, .slice a5 a1.length a3), (1, .slice a6 a2.length a4)] (by kernel_rfl) ?_
 refine EL.done (by kernel_rfl) ?_
 refine EQ.code ?_
 refine EW.seq (x := Cd35.r.l) (y := Cd35.r.r) (by kernel_rfl) ?_
 refine EW.seq (x := Cd35.r.l.l) (y := Cd35.r.l.r) (by kernel_rfl) ?_
 refine EW.region (id := 1) (ops := Cd35.r.l.l.ops) (by kernel_rfl) ?_
 refine EL.quick 5 [0, 1, 10] [(0, .slice a5 a1.length a3), (1, .slice a6 a2.length a4), (10, .bool (!(decide ((a1.length : Int) = (a2.length : Int)))))] (by kernel_rfl) ?_
 refine EL.done (by kernel_rfl) ?_
 refine EQ.code ?_
 refine EW.condQ (b := !(decide ((a1.length : Int) = (a2.length : Int)))) (o := (.tmp 10)) (x := Cd35.r.l.r.l) (y := Cd35.r.l.r.r) ((a1.length : Int) = (a2.length : Int)) (false) (by kernel_rfl) (by kernel_rfl) ⟨fun h => (by rw [decide_eq_true h] <;> rfl), fun h => (by rw [decide_eq_false h] <;> rfl)⟩ (fun b1 => ?_) (fun b1 => ?_)
 ·rw [if_pos b1] at H
  refine EW.skip (by kernel_rfl) ?_
  refine EQ.code ?_
  refine EW.seq (x := Cd35.r.r.l) (y := Cd35.r.r.r) (by kernel_rfl) ?_
  refine EW.seq (x := Cd35.r.r.l.l) (y := Cd35.r.r.l.r) (by kernel_rfl) ?_
  refine EW.region (id := 3) (ops := Cd35.r.r.l.l.ops) (by kernel_rfl) ?_
  refine EL.quick 1 [0, 1, 5] [(0, .slice a5 a1.length a3), (1, .slice a6 a2.length a4), (5, .int .i64 0)] (by kernel_rfl) ?_
  refine EL.done (by kernel_rfl) ?_
  refine EQ.code ?_
  refine EW.block (x := Cd35.r.r.l.r.l) (id := 0) (by kernel_rfl) ?_
  refine EW.loop (x := Cd35.r.r.l.r.l.l) (fun n a w => ∃ a0 : Int, Sat 26 [(0, .slice a5 a1.length a3), (1, .slice a6 a2.length a4), (5, .int .i64 a0)] a ∧ St B w (os) (Ro.sl kS69 a5 a3 a1 :: Ro.sl kS69 a6 a4 a2 :: rs) ∧ confidantref21_SameAudit.l0 K a1 a2 n a0 = some b4) K (by kernel_rfl) ?_ (fun n a w hI => ?_)
  ·refine EQ.keep [0, 1, 5] [(0, .slice a5 a1.length a3), (1, .slice a6 a2.length a4), (5, .int .i64 0)] (by kernel_rfl) ?_
   exact fun a ha => ⟨0, ha, (hS.re [] [] rfl (sub_cons 0 rfl (sub_cons 1 rfl (sub_tail (sub_tail (sub_self)))))), H⟩
  ·obtain ⟨a0, ha, hS, H⟩ := hI
   obtain _ | n := n
   ·simp [confidantref21_SameAudit.l0] at H
   rw [confidantref21_SameAudit.l0.eq_2] at H
   refine EW.at ?_ a ha
   clear ha a
   refine EW.seq (x := Cd35.r.r.l.r.l.l.l) (y := Cd35.r.r.l.r.l.l.r) (by kernel_rfl) ?_
   refine EW.seq (x := Cd35.r.r.l.r.l.l.l.l) (y := Cd35.r.r.l.r.l.l.l.r) (by kernel_rfl) ?_
   refine EW.region (id := 4) (ops := Cd35.r.r.l.r.l.l.l.l.ops) (by kernel_rfl) ?_
   refine EL.quick 4 [0, 1, 5, 14] [(0, .slice a5 a1.length a3), (1, .slice a6 a2.length a4), (5, .int .i64 a0), (14, .bool (decide (a0 < (a1.length : Int))))] (by kernel_rfl) ?_
   refine EL.done (by kernel_rfl) ?_
   refine EQ.code ?_
   refine EW.condP (o := (.tmp 14)) (x := Cd35.r.r.l.r.l.l.l.r.l) (y := Cd35.r.r.l.r.l.l.l.r.r) (a0 < (a1.length : Int)) (by kernel_rfl) (by kernel_rfl) (fun a9 => ?_) (fun a9 => ?_)
   ·rw [if_pos a9] at H
    refine EW.skip (by kernel_rfl) ?_
    refine EQ.code ?_
    refine EW.seq (x := Cd35.r.r.l.r.l.l.r.l) (y := Cd35.r.r.l.r.l.l.r.r) (by kernel_rfl) ?_
    refine EW.block (x := Cd35.r.r.l.r.l.l.r.l.l) (id := 1) (by kernel_rfl) ?_
    refine EW.seq (x := Cd35.r.r.l.r.l.l.r.l.l.l) (y := Cd35.r.r.l.r.l.l.r.l.l.r) (by kernel_rfl) ?_
    obtain ⟨b0, H⟩ := ite_in H
    obtain ⟨a7, rfl⟩ := St.rd_some hS (Rd.ro 0 rfl) b0 a9
    obtain ⟨b2, H⟩ := ite_in H
    obtain ⟨a8, rfl⟩ := St.rd_some hS (Rd.ro 1 rfl) b0 b2
    have hS := hS.drew
    refine EW.draw (B := B) (id := 6) (ops := Cd35.r.r.l.r.l.l.r.l.l.l.ops) [] [Ro.sl kS69 (some a7) a3 a1, Ro.sl kS69 (some a8) a4 a2] (by kernel_rfl) (by kernel_rfl) ?_
    have hN : Region.noSelect Cd35.r.r.l.r.l.l.r.l.l.l.ops = true := (by kernel_rfl)
    have hF : freeAll Cd35.r.r.l.r.l.l.r.l.l.l.ops = true := (by kernel_rfl)
    have hC : Core B [] [Ro.sl kS69 (some a7) a3 a1, Ro.sl kS69 (some a8) a4 a2] _ := ⟨_, _, hS⟩
    refine ED.quick hN hF hC [0, 1, 4, 5] [0, 1, 5, 17, 18, 21, 22] 5 [(0, .slice (some a7) a1.length a3), (1, .slice (some a8) a2.length a4), (5, .int .i64 a0), (17, .slice (some a7) a1.length a3), (18, .int .i64 a0), (21, .slice (some a8) a2.length a4), (22, .int .i64 a0)] #[true, true, false, false, true, true, false, false, false] (by kernel_rfl) (by kernel_rfl) ?_
    refine ED.Y hN hF hC 2 4 #[true, true, true, false, true, true, false, false, false] (by kernel_rfl) (by kernel_rfl) rfl (fun _ _ _ hS => YO.idx 64 6 a7 a1.length a3 .i64 a0 19 (by kernel_rfl) (by kernel_rfl) (by kernel_rfl) (by kernel_rfl) b0 a9) ?_
    refine ED.Y hN hF hC 3 3 #[true, true, true, true, true, true, false, false, false] (by kernel_rfl) (by kernel_rfl) rfl (fun _ _ _ hS => YO.loadEl hS kS69 a7 a3 a1 (Rd.ro 0 rfl) zS69 encS69 encS69_of a0 b0 a9 69 6 0 6 rfl (.agg #[.int .i64 ((a1.getD a0.toNat zS69).f0), .int .i64 ((a1.getD a0.toNat zS69).f1), .int .i64 ((a1.getD a0.toNat zS69).f2), .int .i32 ((a1.getD a0.toNat zS69).f3), .int .i64 ((a1.getD a0.toNat zS69).f4), .int .i32 ((a1.getD a0.toNat zS69).f5)]) 20 (by kernel_rfl) (by kernel_rfl) (by kernel_rfl) (by kernel_rfl)) ?_
    refine ED.Y hN hF hC 6 2 #[true, true, true, true, true, true, true, false, false] (by kernel_rfl) (by kernel_rfl) rfl (fun _ _ _ hS => YO.idx 64 6 a8 a2.length a4 .i64 a0 23 (by kernel_rfl) (by kernel_rfl) (by kernel_rfl) (by kernel_rfl) b0 b2) ?_
    refine ED.Y hN hF hC 7 1 #[true, true, true, true, true, true, true, true, false] (by kernel_rfl) (by kernel_rfl) rfl (fun _ _ _ hS => YO.loadEl hS kS69 a8 a4 a2 (Rd.ro 1 rfl) zS69 encS69 encS69_of a0 b0 b2 69 6 0 6 rfl (.agg #[.int .i64 ((a2.getD a0.toNat zS69).f0), .int .i64 ((a2.getD a0.toNat zS69).f1), .int .i64 ((a2.getD a0.toNat zS69).f2), .int .i32 ((a2.getD a0.toNat zS69).f3), .int .i64 ((a2.getD a0.toNat zS69).f4), .int .i32 ((a2.getD a0.toNat zS69).f5)]) 24 (by kernel_rfl) (by kernel_rfl) (by kernel_rfl) (by kernel_rfl)) ?_
    refine ED.Y hN hF hC 8 0 #[true, true, true, true, true, true, true, true, true] (by kernel_rfl) (by kernel_rfl) rfl (fun _ _ _ hS => YO.eqAg .neq 69 (.tmp 20) (.tmp 24) #[.int .i64 ((a1.getD a0.toNat zS69).f0), .int .i64 ((a1.getD a0.toNat zS69).f1), .int .i64 ((a1.getD a0.toNat zS69).f2), .int .i32 ((a1.getD a0.toNat zS69).f3), .int .i64 ((a1.getD a0.toNat zS69).f4), .int .i32 ((a1.getD a0.toNat zS69).f5)] #[.int .i64 ((a2.getD a0.toNat zS69).f0), .int .i64 ((a2.getD a0.toNat zS69).f1), .int .i64 ((a2.getD a0.toNat zS69).f2), .int .i32 ((a2.getD a0.toNat zS69).f3), .int .i64 ((a2.getD a0.toNat zS69).f4), .int .i32 ((a2.getD a0.toNat zS69).f5)] ((((a1.getD a0.toNat zS69).f0) == ((a2.getD a0.toNat zS69).f0)) && ((((a1.getD a0.toNat zS69).f1) == ((a2.getD a0.toNat zS69).f1)) && ((((a1.getD a0.toNat zS69).f2) == ((a2.getD a0.toNat zS69).f2)) && ((((a1.getD a0.toNat zS69).f3) == ((a2.getD a0.toNat zS69).f3)) && ((((a1.getD a0.toNat zS69).f4) == ((a2.getD a0.toNat zS69).f4)) && ((((a1.getD a0.toNat zS69).f5) == ((a2.getD a0.toNat zS69).f5)) && true)))))) (!(((((a1.getD a0.toNat zS69).f0) == ((a2.getD a0.toNat zS69).f0)) && ((((a1.getD a0.toNat zS69).f1) == ((a2.getD a0.toNat zS69).f1)) && ((((a1.getD a0.toNat zS69).f2) == ((a2.getD a0.toNat zS69).f2)) && ((((a1.getD a0.toNat zS69).f3) == ((a2.getD a0.toNat zS69).f3)) && ((((a1.getD a0.toNat zS69).f4) == ((a2.getD a0.toNat zS69).f4)) && ((((a1.getD a0.toNat zS69).f5) == ((a2.getD a0.toNat zS69).f5)) && true)))))))) 25 (by kernel_rfl) (by kernel_rfl) (by kernel_rfl) (by kernel_rfl) (by kernel_rfl) (.inr ⟨rfl, rfl⟩)) ?_
    refine ED.done (by kernel_rfl) ?_
    refine EQ.code ?_
    refine EW.condQ (b := !(((((a1.getD a0.toNat zS69).f0) == ((a2.getD a0.toNat zS69).f0)) && ((((a1.getD a0.toNat zS69).f1) == ((a2.getD a0.toNat zS69).f1)) && ((((a1.getD a0.toNat zS69).f2) == ((a2.getD a0.toNat zS69).f2)) && ((((a1.getD a0.toNat zS69).f3) == ((a2.getD a0.toNat zS69).f3)) && ((((a1.getD a0.toNat zS69).f4) == ((a2.getD a0.toNat zS69).f4)) && ((((a1.getD a0.toNat zS69).f5) == ((a2.getD a0.toNat zS69).f5)) && true)))))))) (o := (.tmp 25)) (x := Cd35.r.r.l.r.l.l.r.l.l.r.l) (y := Cd35.r.r.l.r.l.l.r.l.l.r.r) (((((a1.getD a0.toNat zS69).f0) == ((a2.getD a0.toNat zS69).f0)) && ((((a1.getD a0.toNat zS69).f1) == ((a2.getD a0.toNat zS69).f1)) && ((((a1.getD a0.toNat zS69).f2) == ((a2.getD a0.toNat zS69).f2)) && ((((a1.getD a0.toNat zS69).f3) == ((a2.getD a0.toNat zS69).f3)) && ((((a1.getD a0.toNat zS69).f4) == ((a2.getD a0.toNat zS69).f4)) && ((((a1.getD a0.toNat zS69).f5) == ((a2.getD a0.toNat zS69).f5)) && true)))))) = true) (false) (by kernel_rfl) (by kernel_rfl) ⟨fun h => (by rw [h] <;> rfl), fun h => (by rw [Bool.eq_false_iff.2 h] <;> rfl)⟩ (fun b3 => ?_) (fun b3 => ?_)
    ·rw [if_pos b3] at H
     refine EW.skip (by kernel_rfl) ?_
     refine EQ.pop ?_
     refine EQ.code ?_
     refine EW.region (id := 5) (ops := Cd35.r.r.l.r.l.l.r.r.ops) (by kernel_rfl) ?_
     refine EL.quick 3 [0, 1, 5] [(0, .slice (some a7) a1.length a3), (1, .slice (some a8) a2.length a4), (5, .int .i64 (IntKind.i64.wrap (a0 + 1)))] (by kernel_rfl) ?_
     refine EL.done (by kernel_rfl) ?_
     refine EQ.to ?_
     refine EQ.keep [0, 1, 5] [(0, .slice (some a7) a1.length a3), (1, .slice (some a8) a2.length a4), (5, .int .i64 (IntKind.i64.wrap (a0 + 1)))] (by kernel_rfl) ?_
     exact fun a ha => ⟨n, Nat.lt_succ_self n, IntKind.i64.wrap (a0 + 1), ha, (hS.re [] [] rfl (sub_cons 0 rfl (sub_cons 1 rfl (sub_tail (sub_tail (sub_self)))))), H⟩
    ·rw [if_neg b3] at H
     refine EW.seq (x := Cd35.r.r.l.r.l.l.r.l.l.r.l.l) (y := Cd35.r.r.l.r.l.l.r.l.l.r.l.r) (by kernel_rfl) ?_
     refine EW.region (id := 7) (ops := Cd35.r.r.l.r.l.l.r.l.l.r.l.l.ops) (by kernel_rfl) ?_
     refine EL.quick 1 [4] [(4, .bool (false))] (by kernel_rfl) ?_
     refine EL.done (by kernel_rfl) ?_
     refine EQ.code ?_
     refine EW.ret (by kernel_rfl) ?_
     refine EQ.ret ?_
     refine EQ.ret ?_
     refine EQ.ret ?_
     refine EQ.ret ?_
     refine EQ.ret ?_
     obtain rfl := Option.some.inj H
     exact EQ.leave (.bool (false)) (by kernel_rfl) ⟨_, rfl, rfl, (hS.re [] [] rfl (sub_self))⟩
   ·rw [if_neg a9] at H
    refine EW.exit (id := 0) (by kernel_rfl) ?_
    refine EQ.exitCode ?_
    refine EQ.exitTo ?_
    refine EQ.exitHere ?_
    refine EQ.code ?_
    refine EW.seq (x := Cd35.r.r.r.l) (y := Cd35.r.r.r.r) (by kernel_rfl) ?_
    refine EW.region (id := 8) (ops := Cd35.r.r.r.l.ops) (by kernel_rfl) ?_
    refine EL.quick 1 [4] [(4, .bool (true))] (by kernel_rfl) ?_
    refine EL.done (by kernel_rfl) ?_
    refine EQ.code ?_
    refine EW.ret (by kernel_rfl) ?_
    obtain rfl := Option.some.inj H
    exact EQ.leave (.bool (true)) (by kernel_rfl) ⟨_, rfl, rfl, (hS.re [] [] rfl (sub_self))⟩
 ·rw [if_neg b1] at H
  refine EW.seq (x := Cd35.r.l.r.l.l) (y := Cd35.r.l.r.l.r) (by kernel_rfl) ?_
  refine EW.region (id := 2) (ops := Cd35.r.l.r.l.l.ops) (by kernel_rfl) ?_
  refine EL.quick 1 [4] [(4, .bool (false))] (by kernel_rfl) ?_
  refine EL.done (by kernel_rfl) ?_
  refine EQ.code ?_
  refine EW.ret (by kernel_rfl) ?_
  refine EQ.ret ?_
  obtain rfl := Option.some.inj H
  exact EQ.leave (.bool (false)) (by kernel_rfl) ⟨_, rfl, rfl, (hS.re [] [] rfl (sub_self))⟩

/-! ### confidant/confidantref21.in: function 56 -/
def confidantref21_in.l0 (K : Nat) (a0 : List Int) (a2 : Int) : Nat → Int → Option Bool
 | 0, _ => none
 | n + 1, a1 => if a1 < (a0.length : Int) then (if 0 ≤ a1 then (if (a0.getD a1.toNat 0) = a2 then (some true) else (confidantref21_in.l0 K a0 a2 n (IntKind.i64.wrap (a1 + 1)))) else none) else (some false)
def confidantref21_in.f (K : Nat) (a0 : List Int) (a2 : Int) : Option Bool := confidantref21_in.l0 K a0 a2 K 0
set_option maxRecDepth 100000 in
theorem confidantref21_in.calls {K : Nat} {a0 : List Int} {a2 : Int} {a4 : Option Addr} {a3 : Nat} {a9 : Bool} {B w : World} {os : List Ass} {rs : List Ro} (H : confidantref21_in.f K a0 a2 = some a9) (hS : St B w (os) (Ro.sl (Kd.int .i64) a4 a3 a0 :: rs)) :
  Calls Try.prog 56 [.slice a4 a0.length a3, .int .i64 a2].toArray w (fun en w' => ∃ v, en = .returned v ∧ v = .bool (a9) ∧ St B w' (os) (Ro.sl (Kd.int .i64) a4 a3 a0 :: rs)) := by
 unfold confidantref21_in.f at H
 refine calls_of_EW (args := [.slice a4 a0.length a3, .int .i64 a2]) (c := Cd56) 18 Try.func56 (by kernel_rfl) (by kernel_rfl) (by kernel_rfl) ?_
 refine EW.seq (x := Cd56.l) (y := Cd56.r) (by kernel_rfl) ?_
 refine EW.region (id := 0) (ops := Cd56.l.ops) (by kernel_rfl) ?_
 refine EL.quick 1 [0, 1] [(0, .slice a4 a0.length a3), (1, .int .i64 a2)] (by kernel_rfl) ?_
 refine EL.done (by kernel_rfl) ?_
 refine EQ.code ?_
 refine EW.seq (x := Cd56.r.l) (y := Cd56.r.r) (by kernel_rfl) ?_
 refine EW.seq (x := Cd56.r.l.l) (y := Cd56.r.l.r) (by kernel_rfl) ?_
 refine EW.region (id := 1) (ops := Cd56.r.l.l.ops) (by kernel_rfl) ?_
 refine EL.quick 1 [0, 1, 5] [(0, .slice a4 a0.length a3), (1, .int .i64 a2), (5, .int .i64 0)] (by kernel_rfl) ?_
 refine EL.done (by kernel_rfl) ?_
 refine EQ.code ?_
 refine EW.block (x := Cd56.r.l.r.l) (id := 0) (by kernel_rfl) ?_
 refine EW.loop (x := Cd56.r.l.r.l.l) (fun n a w => ∃ a1 : Int, Sat 18 [(0, .slice a4 a0.length a3), (1, .int .i64 a2), (5, .int .i64 a1)] a ∧ St B w (os) (Ro.sl (Kd.int .i64) a4 a3 a0 :: rs) ∧ confidantref21_in.l0 K a0 a2 n a1 = some a9) K (by kernel_rfl) ?_ (fun n a w hI => ?_)
 ·refine EQ.keep [0, 1, 5] [(0, .slice a4 a0.length a3), (1, .int .i64 a2), (5, .int .i64 0)] (by kernel_rfl) ?_
  exact fun a ha => ⟨0, ha, (hS.re [] [] rfl (sub_cons 0 rfl (sub_tail (sub_self)))), H⟩
 ·obtain ⟨a1, ha, hS, H⟩ := hI
  obtain _ | n := n
  ·simp [confidantref21_in.l0] at H
  rw [confidantref21_in.l0.eq_2] at H
  refine EW.at ?_ a ha
  clear ha a
  refine EW.seq (x := Cd56.r.l.r.l.l.l) (y := Cd56.r.l.r.l.l.r) (by kernel_rfl) ?_
  refine EW.seq (x := Cd56.r.l.r.l.l.l.l) (y := Cd56.r.l.r.l.l.l.r) (by kernel_rfl) ?_
  refine EW.region (id := 2) (ops := Cd56.r.l.r.l.l.l.l.ops) (by kernel_rfl) ?_
  refine EL.quick 4 [0, 1, 5, 9] [(0, .slice a4 a0.length a3), (1, .int .i64 a2), (5, .int .i64 a1), (9, .bool (decide (a1 < (a0.length : Int))))] (by kernel_rfl) ?_
  refine EL.done (by kernel_rfl) ?_
  refine EQ.code ?_
  refine EW.condP (o := (.tmp 9)) (x := Cd56.r.l.r.l.l.l.r.l) (y := Cd56.r.l.r.l.l.l.r.r) (a1 < (a0.length : Int)) (by kernel_rfl) (by kernel_rfl) (fun a5 => ?_) (fun a5 => ?_)
  ·rw [if_pos a5] at H
   refine EW.skip (by kernel_rfl) ?_
   refine EQ.code ?_
   refine EW.seq (x := Cd56.r.l.r.l.l.r.l) (y := Cd56.r.l.r.l.l.r.r) (by kernel_rfl) ?_
   refine EW.block (x := Cd56.r.l.r.l.l.r.l.l) (id := 1) (by kernel_rfl) ?_
   refine EW.seq (x := Cd56.r.l.r.l.l.r.l.l.l) (y := Cd56.r.l.r.l.l.r.l.l.r) (by kernel_rfl) ?_
   refine EW.region (id := 4) (ops := Cd56.r.l.r.l.l.r.l.l.l.ops) (by kernel_rfl) ?_
   refine EL.quick 2 [0, 1, 5, 12, 13] [(0, .slice a4 a0.length a3), (1, .int .i64 a2), (5, .int .i64 a1), (12, .slice a4 a0.length a3), (13, .int .i64 a1)] (by kernel_rfl) ?_
   obtain ⟨a7, H⟩ := ite_in H
   obtain ⟨a6, rfl⟩ := St.rd_some hS (Rd.ro 0 rfl) a7 a5
   refine EL.of (EO.Y (YO.idx 66 1 a6 a0.length a3 .i64 a1 14 (by kernel_rfl) (by kernel_rfl) (by kernel_rfl) (by kernel_rfl) a7 a5) ?_)
   refine EL.of (EO.Y (YO.loadEl hS (Kd.int .i64) a6 a3 a0 (Rd.ro 0 rfl) 0 (encI .i64) encI_of a1 a7 a5 3 1 0 1 rfl (.int .i64 (a0.getD a1.toNat 0)) 15 (by kernel_rfl) (by kernel_rfl) (by kernel_rfl) (by kernel_rfl)) ?_)
   refine EL.quick 2 [0, 1, 5, 17] [(0, .slice (some a6) a0.length a3), (1, .int .i64 a2), (5, .int .i64 a1), (17, .bool (decide ((a0.getD a1.toNat 0) = a2)))] (by kernel_rfl) ?_
   refine EL.done (by kernel_rfl) ?_
   refine EQ.code ?_
   refine EW.condP (o := (.tmp 17)) (x := Cd56.r.l.r.l.l.r.l.l.r.l) (y := Cd56.r.l.r.l.l.r.l.l.r.r) ((a0.getD a1.toNat 0) = a2) (by kernel_rfl) (by kernel_rfl) (fun a8 => ?_) (fun a8 => ?_)
   ·rw [if_pos a8] at H
    refine EW.seq (x := Cd56.r.l.r.l.l.r.l.l.r.l.l) (y := Cd56.r.l.r.l.l.r.l.l.r.l.r) (by kernel_rfl) ?_
    refine EW.region (id := 5) (ops := Cd56.r.l.r.l.l.r.l.l.r.l.l.ops) (by kernel_rfl) ?_
    refine EL.quick 1 [4] [(4, .bool (true))] (by kernel_rfl) ?_
    refine EL.done (by kernel_rfl) ?_
    refine EQ.code ?_
    refine EW.ret (by kernel_rfl) ?_
    refine EQ.ret ?_
    refine EQ.ret ?_
    refine EQ.ret ?_
    refine EQ.ret ?_
    refine EQ.ret ?_
    obtain rfl := Option.some.inj H
    exact EQ.leave (.bool (true)) (by kernel_rfl) ⟨_, rfl, rfl, (hS.re [] [] rfl (sub_self))⟩
   ·rw [if_neg a8] at H
    refine EW.skip (by kernel_rfl) ?_
    refine EQ.pop ?_
    refine EQ.code ?_
    refine EW.region (id := 3) (ops := Cd56.r.l.r.l.l.r.r.ops) (by kernel_rfl) ?_
    refine EL.quick 3 [0, 1, 5] [(0, .slice (some a6) a0.length a3), (1, .int .i64 a2), (5, .int .i64 (IntKind.i64.wrap (a1 + 1)))] (by kernel_rfl) ?_
    refine EL.done (by kernel_rfl) ?_
    refine EQ.to ?_
    refine EQ.keep [0, 1, 5] [(0, .slice (some a6) a0.length a3), (1, .int .i64 a2), (5, .int .i64 (IntKind.i64.wrap (a1 + 1)))] (by kernel_rfl) ?_
    exact fun a ha => ⟨n, Nat.lt_succ_self n, IntKind.i64.wrap (a1 + 1), ha, (hS.re [] [] rfl (sub_cons 0 rfl (sub_tail (sub_self)))), H⟩
  ·rw [if_neg a5] at H
   refine EW.exit (id := 0) (by kernel_rfl) ?_
   refine EQ.exitCode ?_
   refine EQ.exitTo ?_
   refine EQ.exitHere ?_
   refine EQ.code ?_
   refine EW.seq (x := Cd56.r.r.l) (y := Cd56.r.r.r) (by kernel_rfl) ?_
   refine EW.region (id := 6) (ops := Cd56.r.r.l.ops) (by kernel_rfl) ?_
   refine EL.quick 1 [4] [(4, .bool (false))] (by kernel_rfl) ?_
   refine EL.done (by kernel_rfl) ?_
   refine EQ.code ?_
   refine EW.ret (by kernel_rfl) ?_
   obtain rfl := Option.some.inj H
   exact EQ.leave (.bool (false)) (by kernel_rfl) ⟨_, rfl, rfl, (hS.re [] [] rfl (sub_self))⟩

end Go.Proofs.Ytipaaapbapijhaa.G
