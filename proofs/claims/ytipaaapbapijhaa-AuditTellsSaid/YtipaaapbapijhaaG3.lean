import Derived.Test.YtipaaapbapijhaaProg
import Derived.Test.YtipaaapbapijhaaFwEq
import Derived.Test.YtipaaapbapijhaaFwOpen
import Derived.Test.YtipaaapbapijhaaG0
import Derived.Test.YtipaaapbapijhaaG2
namespace Go.Proofs.Ytipaaapbapijhaa.G
open Go Go.Fw Go.RowKit Go.Proofs
set_option linter.unusedVariables false
set_option linter.unusedSimpArgs false

/-! ### confidant/confidantref21.AuditOf: function 38 -/
def confidantref21_AuditOf.l0 (K : Nat) (a0 : List S69) (a2 : List Int) : Nat → (List S69) → Int → Option (List S69)
 | 0, _, _ => none
 | n + 1, a6, a1 => if a1 < (a0.length : Int) then (lt (fun (b2 : List S69) => (confidantref21_AuditOf.l0 K a0 a2 n b2 (IntKind.i64.wrap (a1 + 1)))) fun c2 => (if 0 ≤ a1 then (b1 (confidantref21_in.f K a2 ((a0.getD a1.toNat zS69).f2)) fun (c4 : Bool) => (if c4 = true then (lt ([(⟨(a0.getD a1.toNat zS69).f0, (a0.getD a1.toNat zS69).f1, (a0.getD a1.toNat zS69).f2, (a0.getD a1.toNat zS69).f3, (a0.getD a1.toNat zS69).f4, (a0.getD a1.toNat zS69).f5⟩ : S69)] : List S69) fun b7 => (if (a6.length + b7.length) * 48 ≤ 140737488355328 then (lt (a6 ++ b7) fun b4 => (c2 b4)) else none)) else (c2 a6))) else none)) else (some a6)
def confidantref21_AuditOf.f (K : Nat) (a0 : List S69) (a2 : List Int) : Option (List S69) := confidantref21_AuditOf.l0 K a0 a2 K ([] : List S69) 0
set_option maxRecDepth 100000 in
theorem confidantref21_AuditOf.calls {K : Nat} {a0 : List S69} {a2 : List Int} {a7 : Option Addr} {a3 : Nat} {a4 : Option Addr} {a5 : Nat} {c1 : List S69} {B w : World} {os : List Ass} {rs : List Ro} (H : confidantref21_AuditOf.f K a0 a2 = some c1) (hS : St B w (os) (Ro.sl kS69 a7 a3 a0 :: Ro.sl (Kd.int .i64) a4 a5 a2 :: rs)) :
  Calls Try.prog 38 [.slice a7 a0.length a3, .slice a4 a2.length a5].toArray w (fun en w' => ∃ v, en = .returned v ∧ ∃ c5 : Option Addr, ∃ c6 : Nat, v = .slice c5 c1.length c6 ∧ St B w' (Ass.own 69 kS69 c5 c6 c1 :: os) (Ro.sl kS69 a7 a3 a0 :: Ro.sl (Kd.int .i64) a4 a5 a2 :: rs)) := by
 unfold confidantref21_AuditOf.f at H
 refine calls_of_EW (args := [.slice a7 a0.length a3, .slice a4 a2.length a5]) (c := Cd38) 28 Try.func38 (by kernel_rfl) (by kernel_rfl) (by kernel_rfl) ?_
 refine EW.seq (x := Cd38.l) (y := Cd38.r) (by kernel_rfl) ?_
 refine EW.region (id := 0) (ops := Cd38.l.ops) (by kernel_rfl) ?_
 refine EL.quick 1 [0, 1] [(0, .slice a7 a0.length a3), (1, .slice a4 a2.length a5)] (by kernel_rfl) ?_
 refine EL.done (by kernel_rfl) ?_
 refine EQ.code ?_
 refine EW.seq (x := Cd38.r.l) (y := Cd38.r.r) (by kernel_rfl) ?_
 refine EW.region (id := 1) (ops := Cd38.r.l.ops) (by kernel_rfl) ?_
 refine EL.quick 1 [0, 1, 5] [(0, .slice a7 a0.length a3), (1, .slice a4 a2.length a5), (5, .slice none ([] : List S69).length 0)] (by kernel_rfl) ?_
 refine EL.done (by kernel_rfl) ?_
 refine EQ.code ?_
 refine EW.seq (x := Cd38.r.r.l) (y := Cd38.r.r.r) (by kernel_rfl) ?_
 refine EW.seq (x := Cd38.r.r.l.l) (y := Cd38.r.r.l.r) (by kernel_rfl) ?_
 refine EW.region (id := 2) (ops := Cd38.r.r.l.l.ops) (by kernel_rfl) ?_
 refine EL.quick 1 [0, 1, 5, 6] [(0, .slice a7 a0.length a3), (1, .slice a4 a2.length a5), (5, .slice none ([] : List S69).length 0), (6, .int .i64 0)] (by kernel_rfl) ?_
 refine EL.done (by kernel_rfl) ?_
 refine EQ.code ?_
 refine EW.block (x := Cd38.r.r.l.r.l) (id := 0) (by kernel_rfl) ?_
 have hS := St.nilO hS 69 kS69
 refine EW.loop (x := Cd38.r.r.l.r.l.l) (fun n a w => ∃ a6 : List S69, ∃ a1 : Int, ∃ a8 : Option Addr, ∃ a9 : Nat, Sat 28 [(0, .slice a7 a0.length a3), (1, .slice a4 a2.length a5), (5, .slice a8 a6.length a9), (6, .int .i64 a1)] a ∧ St B w (Ass.own 69 kS69 a8 a9 a6 :: os) (Ro.sl kS69 a7 a3 a0 :: Ro.sl (Kd.int .i64) a4 a5 a2 :: rs) ∧ confidantref21_AuditOf.l0 K a0 a2 n a6 a1 = some c1) K (by kernel_rfl) ?_ (fun n a w hI => ?_)
 ·refine EQ.keep [0, 1, 5, 6] [(0, .slice a7 a0.length a3), (1, .slice a4 a2.length a5), (5, .slice none ([] : List S69).length 0), (6, .int .i64 0)] (by kernel_rfl) ?_
  exact fun a ha => ⟨([] : List S69), 0, none, 0, ha, (hS.re [0] [] rfl (sub_cons 0 rfl (sub_cons 1 rfl (sub_tail (sub_tail (sub_self)))))), H⟩
 ·obtain ⟨a6, a1, a8, a9, ha, hS, H⟩ := hI
  obtain _ | n := n
  ·simp [confidantref21_AuditOf.l0] at H
  rw [confidantref21_AuditOf.l0.eq_2] at H
  refine EW.at ?_ a ha
  clear ha a
  refine EW.seq (x := Cd38.r.r.l.r.l.l.l) (y := Cd38.r.r.l.r.l.l.r) (by kernel_rfl) ?_
  refine EW.seq (x := Cd38.r.r.l.r.l.l.l.l) (y := Cd38.r.r.l.r.l.l.l.r) (by kernel_rfl) ?_
  refine EW.region (id := 3) (ops := Cd38.r.r.l.r.l.l.l.l.ops) (by kernel_rfl) ?_
  refine EL.quick 4 [0, 1, 5, 6, 10] [(0, .slice a7 a0.length a3), (1, .slice a4 a2.length a5), (5, .slice a8 a6.length a9), (6, .int .i64 a1), (10, .bool (decide (a1 < (a0.length : Int))))] (by kernel_rfl) ?_
  refine EL.done (by kernel_rfl) ?_
  refine EQ.code ?_
  refine EW.condP (o := (.tmp 10)) (x := Cd38.r.r.l.r.l.l.l.r.l) (y := Cd38.r.r.l.r.l.l.l.r.r) (a1 < (a0.length : Int)) (by kernel_rfl) (by kernel_rfl) (fun b3 => ?_) (fun b3 => ?_)
  ·rw [if_pos b3] at H
   refine EW.skip (by kernel_rfl) ?_
   refine EQ.code ?_
   obtain ⟨c2, d1, H⟩ := lt_out H
   refine EW.cut (x := Cd38.r.r.l.r.l.l.r.l) (y := Cd38.r.r.l.r.l.l.r.r) (fun a w => ∃ b2 : List S69, ∃ b5 : Option Addr, ∃ b6 : Nat, Sat 28 [(0, .slice a7 a0.length a3), (1, .slice a4 a2.length a5), (5, .slice b5 b2.length b6), (6, .int .i64 a1)] a ∧ St B w (Ass.own 69 kS69 b5 b6 b2 :: os) (Ro.sl (Kd.int .i64) a4 a5 a2 :: Ro.sl kS69 a7 a3 a0 :: Ro.sl (Kd.int .i64) a4 a5 a2 :: rs) ∧ c2 b2 = some c1) (by kernel_rfl) ?_ (fun a w hI => ?_)
   ·refine EW.block (x := Cd38.r.r.l.r.l.l.r.l.l) (id := 1) (by kernel_rfl) ?_
    refine EW.seq (x := Cd38.r.r.l.r.l.l.r.l.l.l) (y := Cd38.r.r.l.r.l.l.r.l.l.r) (by kernel_rfl) ?_
    refine EW.region (id := 5) (ops := Cd38.r.r.l.r.l.l.r.l.l.l.ops) (by kernel_rfl) ?_
    refine EL.quick 3 [0, 1, 5, 6, 13, 14, 15] [(0, .slice a7 a0.length a3), (1, .slice a4 a2.length a5), (5, .slice a8 a6.length a9), (6, .int .i64 a1), (13, .slice a4 a2.length a5), (14, .slice a7 a0.length a3), (15, .int .i64 a1)] (by kernel_rfl) ?_
    obtain ⟨c0, H⟩ := ite_in H
    obtain ⟨b0, rfl⟩ := St.rd_some hS (Rd.ro 0 rfl) c0 b3
    refine EL.of (EO.Y (YO.idx 64 6 b0 a0.length a3 .i64 a1 16 (by kernel_rfl) (by kernel_rfl) (by kernel_rfl) (by kernel_rfl) c0 b3) ?_)
    refine EL.quick 1 [0, 1, 5, 6, 13, 17] [(0, .slice (some b0) a0.length a3), (1, .slice a4 a2.length a5), (5, .slice a8 a6.length a9), (6, .int .i64 a1), (13, .slice a4 a2.length a5), (17, .pointer (some ((b0.add (a1.toNat * 6)).add 2)))] (by kernel_rfl) ?_
    refine EL.of (EO.Y (YO.loadEl hS kS69 b0 a3 a0 (Rd.ro 0 rfl) zS69 encS69 encS69_of a1 c0 b3 3 6 2 1 rfl (.int .i64 ((a0.getD a1.toNat zS69).f2)) 18 (by kernel_rfl) (by kernel_rfl) (by kernel_rfl) (by kernel_rfl)) ?_)
    have hS : St B _ (Ass.own 69 kS69 a8 a9 a6 :: os) (Ro.sl (Kd.int .i64) a4 a5 a2 :: Ro.sl kS69 (some b0) a3 a0 :: Ro.sl (Kd.int .i64) a4 a5 a2 :: rs) := hS.re [] [] rfl (sub_cons 1 rfl sub_self)
    obtain ⟨c4, d0, H⟩ := b1_out H
    refine EL.of (EO.callD 56 [.slice a4 a2.length a5, .int .i64 ((a0.getD a1.toNat zS69).f2)] _ 19 (by kernel_rfl) (by kernel_rfl) (by kernel_rfl) (confidantref21_in.calls d0 hS) ?_)
    rintro v w ⟨rfl, hS⟩
    refine EL.done (by kernel_rfl) ?_
    refine EQ.code ?_
    refine EW.condP' (o := (.tmp 19)) (x := Cd38.r.r.l.r.l.l.r.l.l.r.l) (y := Cd38.r.r.l.r.l.l.r.l.l.r.r) (c4) (by kernel_rfl) (by kernel_rfl) (fun c3 => ?_) (fun c3 => ?_)
    ·rw [if_pos c3] at H
     refine EW.region (id := 6) (ops := Cd38.r.r.l.r.l.l.r.l.l.r.l.ops) (by kernel_rfl) ?_
     refine EL.quick 3 [0, 1, 6, 20, 21, 22] [(0, .slice (some b0) a0.length a3), (1, .slice a4 a2.length a5), (6, .int .i64 a1), (20, .slice a8 a6.length a9), (21, .slice (some b0) a0.length a3), (22, .int .i64 a1)] (by kernel_rfl) ?_
     refine EL.of (EO.Y (YO.idx 64 6 b0 a0.length a3 .i64 a1 23 (by kernel_rfl) (by kernel_rfl) (by kernel_rfl) (by kernel_rfl) c0 b3) ?_)
     refine EL.of (EO.Y (YO.loadEl hS kS69 b0 a3 a0 (Rd.ro 1 rfl) zS69 encS69 encS69_of a1 c0 b3 69 6 0 6 rfl (.agg #[.int .i64 ((a0.getD a1.toNat zS69).f0), .int .i64 ((a0.getD a1.toNat zS69).f1), .int .i64 ((a0.getD a1.toNat zS69).f2), .int .i32 ((a0.getD a1.toNat zS69).f3), .int .i64 ((a0.getD a1.toNat zS69).f4), .int .i32 ((a0.getD a1.toNat zS69).f5)]) 24 (by kernel_rfl) (by kernel_rfl) (by kernel_rfl) (by kernel_rfl)) ?_)
     obtain ⟨b7, c8, H⟩ := lt_out H
     refine EL.of (EO.lit hS kS69 69 64 1 #[(0, .agg #[.int .i64 ((a0.getD a1.toNat zS69).f0), .int .i64 ((a0.getD a1.toNat zS69).f1), .int .i64 ((a0.getD a1.toNat zS69).f2), .int .i32 ((a0.getD a1.toNat zS69).f3), .int .i64 ((a0.getD a1.toNat zS69).f4), .int .i32 ((a0.getD a1.toNat zS69).f5)])] [.int .i64 ((a0.getD a1.toNat zS69).f0), .int .i64 ((a0.getD a1.toNat zS69).f1), .int .i64 ((a0.getD a1.toNat zS69).f2), .int .i32 ((a0.getD a1.toNat zS69).f3), .int .i64 ((a0.getD a1.toNat zS69).f4), .int .i32 ((a0.getD a1.toNat zS69).f5)] b7 25 (by kernel_rfl) (by kernel_rfl) (by kernel_rfl) (fun _ => (by kernel_rfl)) (by rw [c8]; rfl) (by kernel_rfl) (fun w G hr => (by rw [c8]; exact ⟨[.int .i64 ((a0.getD a1.toNat zS69).f0), .int .i64 ((a0.getD a1.toNat zS69).f1), .int .i64 ((a0.getD a1.toNat zS69).f2), .int .i32 ((a0.getD a1.toNat zS69).f3), .int .i64 ((a0.getD a1.toNat zS69).f4), .int .i32 ((a0.getD a1.toNat zS69).f5)], [], rfl, ⟨[.int .i64 ((a0.getD a1.toNat zS69).f0)], [.int .i64 ((a0.getD a1.toNat zS69).f1), .int .i64 ((a0.getD a1.toNat zS69).f2), .int .i32 ((a0.getD a1.toNat zS69).f3), .int .i64 ((a0.getD a1.toNat zS69).f4), .int .i32 ((a0.getD a1.toNat zS69).f5)], rfl, rfl, ⟨[.int .i64 ((a0.getD a1.toNat zS69).f1)], [.int .i64 ((a0.getD a1.toNat zS69).f2), .int .i32 ((a0.getD a1.toNat zS69).f3), .int .i64 ((a0.getD a1.toNat zS69).f4), .int .i32 ((a0.getD a1.toNat zS69).f5)], rfl, rfl, ⟨[.int .i64 ((a0.getD a1.toNat zS69).f2)], [.int .i32 ((a0.getD a1.toNat zS69).f3), .int .i64 ((a0.getD a1.toNat zS69).f4), .int .i32 ((a0.getD a1.toNat zS69).f5)], rfl, rfl, ⟨[.int .i32 ((a0.getD a1.toNat zS69).f3)], [.int .i64 ((a0.getD a1.toNat zS69).f4), .int .i32 ((a0.getD a1.toNat zS69).f5)], rfl, rfl, ⟨[.int .i64 ((a0.getD a1.toNat zS69).f4)], [.int .i32 ((a0.getD a1.toNat zS69).f5)], rfl, rfl, ⟨[.int .i32 ((a0.getD a1.toNat zS69).f5)], [], rfl, rfl, rfl⟩⟩⟩⟩⟩⟩, rfl⟩)) ?_)
     intro c7 w hS
     obtain ⟨c9, H⟩ := ite_in H
     obtain ⟨b4, d2, H⟩ := lt_out H
     refine EL.of (EO.append hS 64 64 69 48 1 kS69 a8 a9 a6 rfl (some ⟨c7, 0, none⟩) 1 b7 (Rd.own 0 69 rfl) b4 d2 (fun b8 b9 => Ass.own 69 kS69 (some ⟨c7, 0, none⟩) 1 b7 :: Ass.own 69 kS69 b8 b9 b4 :: os) 26 (by kernel_rfl) (by kernel_rfl) (by kernel_rfl) (by kernel_rfl) c9 (fun _ _ => rfl) ?_)
     intro b8 b9 w hS
     refine EL.quick 1 [0, 1, 5, 6] [(0, .slice (some b0) a0.length a3), (1, .slice a4 a2.length a5), (5, .slice b8 b4.length b9), (6, .int .i64 a1)] (by kernel_rfl) ?_
     refine EL.done (by kernel_rfl) ?_
     refine EQ.pop ?_
     refine EQ.to ?_
     refine EQ.keep [0, 1, 5, 6] [(0, .slice (some b0) a0.length a3), (1, .slice a4 a2.length a5), (5, .slice b8 b4.length b9), (6, .int .i64 a1)] (by kernel_rfl) ?_
     exact fun a ha => ⟨b4, b8, b9, ha, (hS.re [1] [1] rfl (sub_cons 0 rfl (sub_cons 1 rfl (sub_cons 0 rfl (sub_tail (sub_tail (sub_tail (sub_self)))))))), H⟩
    ·rw [if_neg c3] at H
     refine EW.skip (by kernel_rfl) ?_
     refine EQ.pop ?_
     refine EQ.to ?_
     refine EQ.keep [0, 1, 5, 6] [(0, .slice (some b0) a0.length a3), (1, .slice a4 a2.length a5), (5, .slice a8 a6.length a9), (6, .int .i64 a1)] (by kernel_rfl) ?_
     exact fun a ha => ⟨a6, a8, a9, ha, (hS.re [0] [] rfl (sub_cons 0 rfl (sub_cons 1 rfl (sub_cons 0 rfl (sub_tail (sub_tail (sub_tail (sub_self)))))))), H⟩
   ·obtain ⟨b2, b5, b6, ha, hS, H⟩ := hI
    rw [d1] at H
    (try dsimp only at H)
    refine EW.at ?_ a ha
    clear ha a
    refine EW.region (id := 4) (ops := Cd38.r.r.l.r.l.l.r.r.ops) (by kernel_rfl) ?_
    refine EL.quick 3 [0, 1, 5, 6] [(0, .slice a7 a0.length a3), (1, .slice a4 a2.length a5), (5, .slice b5 b2.length b6), (6, .int .i64 (IntKind.i64.wrap (a1 + 1)))] (by kernel_rfl) ?_
    refine EL.done (by kernel_rfl) ?_
    refine EQ.to ?_
    refine EQ.keep [0, 1, 5, 6] [(0, .slice a7 a0.length a3), (1, .slice a4 a2.length a5), (5, .slice b5 b2.length b6), (6, .int .i64 (IntKind.i64.wrap (a1 + 1)))] (by kernel_rfl) ?_
    exact fun a ha => ⟨n, Nat.lt_succ_self n, b2, IntKind.i64.wrap (a1 + 1), b5, b6, ha, (hS.re [0] [] rfl (sub_cons 1 rfl (sub_cons 0 rfl (sub_tail (sub_tail (sub_tail (sub_self))))))), H⟩
  ·rw [if_neg b3] at H
   refine EW.exit (id := 0) (by kernel_rfl) ?_
   refine EQ.exitCode ?_
   refine EQ.exitTo ?_
   refine EQ.exitHere ?_
   refine EQ.code ?_
   refine EW.seq (x := Cd38.r.r.r.l) (y := Cd38.r.r.r.r) (by kernel_rfl) ?_
   refine EW.region (id := 7) (ops := Cd38.r.r.r.l.ops) (by kernel_rfl) ?_
   refine EL.quick 2 [4] [(4, .slice a8 a6.length a9)] (by kernel_rfl) ?_
   refine EL.done (by kernel_rfl) ?_
   refine EQ.code ?_
   refine EW.ret (by kernel_rfl) ?_
   obtain rfl := Option.some.inj H
   exact EQ.leave (.slice a8 a6.length a9) (by kernel_rfl) ⟨_, rfl, a8, a9, rfl, (hS.re [0] [] rfl (sub_self))⟩

/-! ### (*confidant/audit.Log).Of: function 37 -/
def audit_Log_Of_29.l0 (K : Nat) (a0 : List S69) (a2 : List Int) : Nat → (List S69) → Int → Option (List S69 × List S69)
 | 0, _, _ => none
 | n + 1, a6, a1 => if a1 < (a0.length : Int) then (lt (fun (b3 : List S69) => (audit_Log_Of_29.l0 K a0 a2 n b3 (IntKind.i64.wrap (a1 + 1)))) fun c4 => (if 0 ≤ a1 then (b1 (slices_Contains_int_int.f K a2 ((a0.getD a1.toNat zS69).f2)) fun (c7 : Bool) => (if c7 = true then (lt ([(⟨(a0.getD a1.toNat zS69).f0, (a0.getD a1.toNat zS69).f1, (a0.getD a1.toNat zS69).f2, (a0.getD a1.toNat zS69).f3, (a0.getD a1.toNat zS69).f4, (a0.getD a1.toNat zS69).f5⟩ : S69)] : List S69) fun b9 => (if (a6.length + b9.length) * 48 ≤ 140737488355328 then (lt (a6 ++ b9) fun b5 => (c4 b5)) else none)) else (c4 a6))) else none)) else (some (a0, a6))
def audit_Log_Of_29.f (K : Nat) (a0 : List S69) (a2 : List Int) : Option (List S69 × List S69) := audit_Log_Of_29.l0 K a0 a2 K ([] : List S69) 0
set_option maxRecDepth 100000 in
theorem audit_Log_Of_29.calls {K : Nat} {a0 : List S69} {a2 : List Int} {b0 : Nat} {a7 : Option Addr} {a4 : Nat} {a3 : Option Addr} {a5 : Nat} {c2 : List S69} {c3 : List S69} {B w : World} {os : List Ass} {rs : List Ro} (H : audit_Log_Of_29.f K a0 a2 = some (c2, c3)) (hS : St B w (Ass.box 113 b0 [.slice a7 a0.length a4] :: Ass.own 3 (Kd.int .i64) a3 a5 a2 :: os) (Ro.sl kS69 a7 a4 a0 :: rs)) :
  Calls Try.prog 37 [.pointer (some ⟨b0, 0, none⟩), .slice a3 a2.length a5].toArray w (fun en w' => ∃ v, en = .returned v ∧ ∃ c8 : Option Addr, ∃ d0 : Nat, ∃ c9 : Option Addr, ∃ d1 : Nat, v = .slice c9 c3.length d1 ∧ St B w' (Ass.box 113 b0 [.slice c8 c2.length d0] :: Ass.own 3 (Kd.int .i64) a3 a5 a2 :: Ass.own 69 kS69 c9 d1 c3 :: os) (Ro.sl kS69 c8 d0 c2 :: Ro.sl kS69 a7 a4 a0 :: rs)) := by
 unfold audit_Log_Of_29.f at H
 refine calls_of_EW (args := [.pointer (some ⟨b0, 0, none⟩), .slice a3 a2.length a5]) (c := Cd37) 27 Try.func37 (by kernel_rfl) (by kernel_rfl) (by kernel_rfl) ?_
 refine EW.seq (x := Cd37.l) (y := Cd37.r) (by kernel_rfl) ?_
 refine EW.region (id := 0) (ops := Cd37.l.ops) (by kernel_rfl) ?_
 refine EL.quick 1 [0, 1] [(0, .pointer (some ⟨b0, 0, none⟩)), (1, .slice a3 a2.length a5)] (by kernel_rfl) ?_
 refine EL.done (by kernel_rfl) ?_
 refine EQ.code ?_
 refine EW.seq (x := Cd37.r.l) (y := Cd37.r.r) (by kernel_rfl) ?_
 refine EW.region (id := 1) (ops := Cd37.r.l.ops) (by kernel_rfl) ?_
 refine EL.quick 1 [0, 1, 5] [(0, .pointer (some ⟨b0, 0, none⟩)), (1, .slice a3 a2.length a5), (5, .slice none ([] : List S69).length 0)] (by kernel_rfl) ?_
 refine EL.done (by kernel_rfl) ?_
 refine EQ.code ?_
 refine EW.seq (x := Cd37.r.r.l) (y := Cd37.r.r.r) (by kernel_rfl) ?_
 refine EW.seq (x := Cd37.r.r.l.l) (y := Cd37.r.r.l.r) (by kernel_rfl) ?_
 refine EW.region (id := 2) (ops := Cd37.r.r.l.l.ops) (by kernel_rfl) ?_
 refine EL.quick 3 [1, 5, 10] [(1, .slice a3 a2.length a5), (5, .slice none ([] : List S69).length 0), (10, .pointer (some ⟨b0, 0, none⟩))] (by kernel_rfl) ?_
 refine EL.of (EO.Y (YO.loadBox hS 0 rfl 64 0 1 (.slice a7 a0.length a4) 11 (by kernel_rfl) (by kernel_rfl) (by kernel_rfl) (by kernel_rfl)) ?_)
 refine EL.quick 2 [1, 5, 11, 12, 13] [(1, .slice a3 a2.length a5), (5, .slice none ([] : List S69).length 0), (11, .slice a7 a0.length a4), (12, .int .i64 (a0.length : Int)), (13, .int .i64 0)] (by kernel_rfl) ?_
 refine EL.done (by kernel_rfl) ?_
 refine EQ.code ?_
 refine EW.block (x := Cd37.r.r.l.r.l) (id := 0) (by kernel_rfl) ?_
 have hS := St.nilO hS 69 kS69
 refine EW.loop (x := Cd37.r.r.l.r.l.l) (fun n a w => ∃ a6 : List S69, ∃ a1 : Int, ∃ a8 : Option Addr, ∃ a9 : Nat, Sat 27 [(1, .slice a3 a2.length a5), (5, .slice a8 a6.length a9), (11, .slice a7 a0.length a4), (12, .int .i64 (a0.length : Int)), (13, .int .i64 a1)] a ∧ St B w (Ass.box 113 b0 [.slice a7 a0.length a4] :: Ass.own 3 (Kd.int .i64) a3 a5 a2 :: Ass.own 69 kS69 a8 a9 a6 :: os) (Ro.sl kS69 a7 a4 a0 :: rs) ∧ audit_Log_Of_29.l0 K a0 a2 n a6 a1 = some (c2, c3)) K (by kernel_rfl) ?_ (fun n a w hI => ?_)
 ·refine EQ.keep [1, 5, 11, 12, 13] [(1, .slice a3 a2.length a5), (5, .slice none ([] : List S69).length 0), (11, .slice a7 a0.length a4), (12, .int .i64 (a0.length : Int)), (13, .int .i64 0)] (by kernel_rfl) ?_
  exact fun a ha => ⟨([] : List S69), 0, none, 0, ha, (hS.re [0, 2, 2] [] rfl (sub_cons 0 rfl (sub_tail (sub_self)))), H⟩
 ·obtain ⟨a6, a1, a8, a9, ha, hS, H⟩ := hI
  obtain _ | n := n
  ·simp [audit_Log_Of_29.l0] at H
  rw [audit_Log_Of_29.l0.eq_2] at H
  refine EW.at ?_ a ha
  clear ha a
  refine EW.seq (x := Cd37.r.r.l.r.l.l.l) (y := Cd37.r.r.l.r.l.l.r) (by kernel_rfl) ?_
  refine EW.region (id := 3) (ops := Cd37.r.r.l.r.l.l.l.ops) (by kernel_rfl) ?_
  refine EL.quick 1 [1, 5, 11, 12, 13, 14] [(1, .slice a3 a2.length a5), (5, .slice a8 a6.length a9), (11, .slice a7 a0.length a4), (12, .int .i64 (a0.length : Int)), (13, .int .i64 a1), (14, .bool (decide (a1 < (a0.length : Int))))] (by kernel_rfl) ?_
  refine EL.done (by kernel_rfl) ?_
  refine EQ.code ?_
  refine EW.seq (x := Cd37.r.r.l.r.l.l.r.l) (y := Cd37.r.r.l.r.l.l.r.r) (by kernel_rfl) ?_
  refine EW.condP (o := (.tmp 14)) (x := Cd37.r.r.l.r.l.l.r.l.l) (y := Cd37.r.r.l.r.l.l.r.l.r) (a1 < (a0.length : Int)) (by kernel_rfl) (by kernel_rfl) (fun b8 => ?_) (fun b8 => ?_)
  ·rw [if_pos b8] at H
   refine EW.skip (by kernel_rfl) ?_
   refine EQ.code ?_
   obtain ⟨c4, d7, H⟩ := lt_out H
   refine EW.cut (x := Cd37.r.r.l.r.l.l.r.r.l) (y := Cd37.r.r.l.r.l.l.r.r.r) (fun a w => ∃ b3 : List S69, ∃ d2 : Nat, ∃ b6 : Option Addr, ∃ b7 : Nat, Sat 27 [(1, .slice a3 a2.length a5), (5, .slice b6 b3.length b7), (11, .slice a7 a0.length a4), (12, .int .i64 (a0.length : Int)), (13, .int .i64 a1)] a ∧ St B w (Ass.box 69 d2 [.int .i64 ((a0.getD a1.toNat zS69).f0), .int .i64 ((a0.getD a1.toNat zS69).f1), .int .i64 ((a0.getD a1.toNat zS69).f2), .int .i32 ((a0.getD a1.toNat zS69).f3), .int .i64 ((a0.getD a1.toNat zS69).f4), .int .i32 ((a0.getD a1.toNat zS69).f5)] :: Ass.box 113 b0 [.slice a7 a0.length a4] :: Ass.own 3 (Kd.int .i64) a3 a5 a2 :: Ass.own 69 kS69 b6 b7 b3 :: os) (Ro.sl kS69 a7 a4 a0 :: rs) ∧ c4 b3 = some (c2, c3)) (by kernel_rfl) ?_ (fun a w hI => ?_)
   ·refine EW.block (x := Cd37.r.r.l.r.l.l.r.r.l.l) (id := 1) (by kernel_rfl) ?_
    refine EW.seq (x := Cd37.r.r.l.r.l.l.r.r.l.l.l) (y := Cd37.r.r.l.r.l.l.r.r.l.l.r) (by kernel_rfl) ?_
    refine EW.region (id := 4) (ops := Cd37.r.r.l.r.l.l.r.r.l.l.l.ops) (by kernel_rfl) ?_
    obtain ⟨c5, H⟩ := ite_in H
    obtain ⟨b2, rfl⟩ := St.rd_some hS (Rd.ro 0 rfl) c5 b8
    refine EL.of (EO.Y (YO.idx 64 6 b2 a0.length a4 .i64 a1 15 (by kernel_rfl) (by kernel_rfl) (by kernel_rfl) (by kernel_rfl) c5 b8) ?_)
    refine EL.of (EO.Y (YO.loadEl hS kS69 b2 a4 a0 (Rd.ro 0 rfl) zS69 encS69 encS69_of a1 c5 b8 69 6 0 6 rfl (.agg #[.int .i64 ((a0.getD a1.toNat zS69).f0), .int .i64 ((a0.getD a1.toNat zS69).f1), .int .i64 ((a0.getD a1.toNat zS69).f2), .int .i32 ((a0.getD a1.toNat zS69).f3), .int .i64 ((a0.getD a1.toNat zS69).f4), .int .i32 ((a0.getD a1.toNat zS69).f5)]) 16 (by kernel_rfl) (by kernel_rfl) (by kernel_rfl) (by kernel_rfl)) ?_)
    refine EL.of (EO.alloc hS 69 (.agg #[.int .i64 0, .int .i64 0, .int .i64 0, .int .i32 0, .int .i64 0, .int .i32 0]) [.int .i64 0, .int .i64 0, .int .i64 0, .int .i32 0, .int .i64 0, .int .i32 0] 7 (by kernel_rfl) (by kernel_rfl) (by kernel_rfl) (by kernel_rfl) (by first | rfl | kernel_rfl) ?_)
    intro b4 w hS
    refine EL.of (EO.storeBox (os' := Ass.box 69 b4 [.int .i64 ((a0.getD a1.toNat zS69).f0), .int .i64 ((a0.getD a1.toNat zS69).f1), .int .i64 ((a0.getD a1.toNat zS69).f2), .int .i32 ((a0.getD a1.toNat zS69).f3), .int .i64 ((a0.getD a1.toNat zS69).f4), .int .i32 ((a0.getD a1.toNat zS69).f5)] :: Ass.box 113 b0 [.slice (some b2) a0.length a4] :: Ass.own 3 (Kd.int .i64) a3 a5 a2 :: Ass.own 69 kS69 a8 a9 a6 :: os) hS 0 rfl 69 0 (.agg #[.int .i64 ((a0.getD a1.toNat zS69).f0), .int .i64 ((a0.getD a1.toNat zS69).f1), .int .i64 ((a0.getD a1.toNat zS69).f2), .int .i32 ((a0.getD a1.toNat zS69).f3), .int .i64 ((a0.getD a1.toNat zS69).f4), .int .i32 ((a0.getD a1.toNat zS69).f5)]) [.int .i64 ((a0.getD a1.toNat zS69).f0), .int .i64 ((a0.getD a1.toNat zS69).f1), .int .i64 ((a0.getD a1.toNat zS69).f2), .int .i32 ((a0.getD a1.toNat zS69).f3), .int .i64 ((a0.getD a1.toNat zS69).f4), .int .i32 ((a0.getD a1.toNat zS69).f5)] (by kernel_rfl) (by kernel_rfl) (by kernel_rfl) (by kernel_rfl) (by kernel_rfl) (by kernel_rfl) rfl rfl ?_)
    intro w hS
    refine EL.done (by kernel_rfl) ?_
    refine EQ.code ?_
    refine EW.seq (x := Cd37.r.r.l.r.l.l.r.r.l.l.r.l) (y := Cd37.r.r.l.r.l.l.r.r.l.l.r.r) (by kernel_rfl) ?_
    refine EW.region (id := 5) (ops := Cd37.r.r.l.r.l.l.r.r.l.l.r.l.ops) (by kernel_rfl) ?_
    refine EL.quick 2 [1, 5, 7, 11, 12, 13, 17, 18] [(1, .slice a3 a2.length a5), (5, .slice a8 a6.length a9), (7, .pointer (some ⟨b4, 0, none⟩)), (11, .slice (some b2) a0.length a4), (12, .int .i64 (a0.length : Int)), (13, .int .i64 a1), (17, .slice a3 a2.length a5), (18, .pointer (some ⟨b4, 2, none⟩))] (by kernel_rfl) ?_
    refine EL.of (EO.Y (YO.loadBox hS 0 rfl 3 2 1 (.int .i64 ((a0.getD a1.toNat zS69).f2)) 19 (by kernel_rfl) (by kernel_rfl) (by kernel_rfl) (by kernel_rfl)) ?_)
    obtain ⟨c7, d6, H⟩ := b1_out H
    refine EL.of (EO.callD 55 [.slice a3 a2.length a5, .int .i64 ((a0.getD a1.toNat zS69).f2)] _ 20 (by kernel_rfl) (by kernel_rfl) (by kernel_rfl) (slices_Contains_int_int.calls d6 (hS.lend2 [Ro.sl (Kd.int .i64) a3 a5 a2] ⟨Lend.own 2 rfl, trivial⟩)) ?_)
    rintro v w ⟨rfl, hL⟩
    have hS : St B w (Ass.box 69 b4 [.int .i64 ((a0.getD a1.toNat zS69).f0), .int .i64 ((a0.getD a1.toNat zS69).f1), .int .i64 ((a0.getD a1.toNat zS69).f2), .int .i32 ((a0.getD a1.toNat zS69).f3), .int .i64 ((a0.getD a1.toNat zS69).f4), .int .i32 ((a0.getD a1.toNat zS69).f5)] :: Ass.box 113 b0 [.slice (some b2) a0.length a4] :: Ass.own 3 (Kd.int .i64) a3 a5 a2 :: Ass.own 69 kS69 a8 a9 a6 :: os) (Ro.sl kS69 (some b2) a4 a0 :: rs) := hS.borrow hL trivial
    refine EL.done (by kernel_rfl) ?_
    refine EQ.code ?_
    refine EW.condP' (o := (.tmp 20)) (x := Cd37.r.r.l.r.l.l.r.r.l.l.r.r.l) (y := Cd37.r.r.l.r.l.l.r.r.l.l.r.r.r) (c7) (by kernel_rfl) (by kernel_rfl) (fun c6 => ?_) (fun c6 => ?_)
    ·rw [if_pos c6] at H
     refine EW.region (id := 6) (ops := Cd37.r.r.l.r.l.l.r.r.l.l.r.r.l.ops) (by kernel_rfl) ?_
     refine EL.quick 1 [1, 7, 11, 12, 13, 21] [(1, .slice a3 a2.length a5), (7, .pointer (some ⟨b4, 0, none⟩)), (11, .slice (some b2) a0.length a4), (12, .int .i64 (a0.length : Int)), (13, .int .i64 a1), (21, .slice a8 a6.length a9)] (by kernel_rfl) ?_
     refine EL.of (EO.Y (YO.loadBox hS 0 rfl 69 0 6 (.agg #[.int .i64 ((a0.getD a1.toNat zS69).f0), .int .i64 ((a0.getD a1.toNat zS69).f1), .int .i64 ((a0.getD a1.toNat zS69).f2), .int .i32 ((a0.getD a1.toNat zS69).f3), .int .i64 ((a0.getD a1.toNat zS69).f4), .int .i32 ((a0.getD a1.toNat zS69).f5)]) 22 (by kernel_rfl) (by kernel_rfl) (by kernel_rfl) (by kernel_rfl)) ?_)
     obtain ⟨b9, d4, H⟩ := lt_out H
     refine EL.of (EO.lit hS kS69 69 64 1 #[(0, .agg #[.int .i64 ((a0.getD a1.toNat zS69).f0), .int .i64 ((a0.getD a1.toNat zS69).f1), .int .i64 ((a0.getD a1.toNat zS69).f2), .int .i32 ((a0.getD a1.toNat zS69).f3), .int .i64 ((a0.getD a1.toNat zS69).f4), .int .i32 ((a0.getD a1.toNat zS69).f5)])] [.int .i64 ((a0.getD a1.toNat zS69).f0), .int .i64 ((a0.getD a1.toNat zS69).f1), .int .i64 ((a0.getD a1.toNat zS69).f2), .int .i32 ((a0.getD a1.toNat zS69).f3), .int .i64 ((a0.getD a1.toNat zS69).f4), .int .i32 ((a0.getD a1.toNat zS69).f5)] b9 23 (by kernel_rfl) (by kernel_rfl) (by kernel_rfl) (fun _ => (by kernel_rfl)) (by rw [d4]; rfl) (by kernel_rfl) (fun w G hr => (by rw [d4]; exact ⟨[.int .i64 ((a0.getD a1.toNat zS69).f0), .int .i64 ((a0.getD a1.toNat zS69).f1), .int .i64 ((a0.getD a1.toNat zS69).f2), .int .i32 ((a0.getD a1.toNat zS69).f3), .int .i64 ((a0.getD a1.toNat zS69).f4), .int .i32 ((a0.getD a1.toNat zS69).f5)], [], rfl, ⟨[.int .i64 ((a0.getD a1.toNat zS69).f0)], [.int .i64 ((a0.getD a1.toNat zS69).f1), .int .i64 ((a0.getD a1.toNat zS69).f2), .int .i32 ((a0.getD a1.toNat zS69).f3), .int .i64 ((a0.getD a1.toNat zS69).f4), .int .i32 ((a0.getD a1.toNat zS69).f5)], rfl, rfl, ⟨[.int .i64 ((a0.getD a1.toNat zS69).f1)], [.int .i64 ((a0.getD a1.toNat zS69).f2), .int .i32 ((a0.getD a1.toNat zS69).f3), .int .i64 ((a0.getD a1.toNat zS69).f4), .int .i32 ((a0.getD a1.toNat zS69).f5)], rfl, rfl, ⟨[.int .i64 ((a0.getD a1.toNat zS69).f2)], [.int .i32 ((a0.getD a1.toNat zS69).f3), .int .i64 ((a0.getD a1.toNat zS69).f4), .int .i32 ((a0.getD a1.toNat zS69).f5)], rfl, rfl, ⟨[.int .i32 ((a0.getD a1.toNat zS69).f3)], [.int .i64 ((a0.getD a1.toNat zS69).f4), .int .i32 ((a0.getD a1.toNat zS69).f5)], rfl, rfl, ⟨[.int .i64 ((a0.getD a1.toNat zS69).f4)], [.int .i32 ((a0.getD a1.toNat zS69).f5)], rfl, rfl, ⟨[.int .i32 ((a0.getD a1.toNat zS69).f5)], [], rfl, rfl, rfl⟩⟩⟩⟩⟩⟩, rfl⟩)) ?_)
     intro d3 w hS
     obtain ⟨d5, H⟩ := ite_in H
     obtain ⟨b5, d8, H⟩ := lt_out H
     refine EL.of (EO.append hS 64 64 69 48 4 kS69 a8 a9 a6 rfl (some ⟨d3, 0, none⟩) 1 b9 (Rd.own 0 69 rfl) b5 d8 (fun c0 c1 => Ass.own 69 kS69 (some ⟨d3, 0, none⟩) 1 b9 :: Ass.box 69 b4 [.int .i64 ((a0.getD a1.toNat zS69).f0), .int .i64 ((a0.getD a1.toNat zS69).f1), .int .i64 ((a0.getD a1.toNat zS69).f2), .int .i32 ((a0.getD a1.toNat zS69).f3), .int .i64 ((a0.getD a1.toNat zS69).f4), .int .i32 ((a0.getD a1.toNat zS69).f5)] :: Ass.box 113 b0 [.slice (some b2) a0.length a4] :: Ass.own 3 (Kd.int .i64) a3 a5 a2 :: Ass.own 69 kS69 c0 c1 b5 :: os) 24 (by kernel_rfl) (by kernel_rfl) (by kernel_rfl) (by kernel_rfl) d5 (fun _ _ => rfl) ?_)
     intro c0 c1 w hS
     refine EL.quick 1 [1, 5, 11, 12, 13] [(1, .slice a3 a2.length a5), (5, .slice c0 b5.length c1), (11, .slice (some b2) a0.length a4), (12, .int .i64 (a0.length : Int)), (13, .int .i64 a1)] (by kernel_rfl) ?_
     refine EL.done (by kernel_rfl) ?_
     refine EQ.pop ?_
     refine EQ.to ?_
     refine EQ.keep [1, 5, 11, 12, 13] [(1, .slice a3 a2.length a5), (5, .slice c0 b5.length c1), (11, .slice (some b2) a0.length a4), (12, .int .i64 (a0.length : Int)), (13, .int .i64 a1)] (by kernel_rfl) ?_
     exact fun a ha => ⟨b5, b4, c0, c1, ha, (hS.re [4, 4, 4, 4] [4] rfl (sub_cons 0 rfl (sub_tail (sub_self)))), H⟩
    ·rw [if_neg c6] at H
     refine EW.skip (by kernel_rfl) ?_
     refine EQ.pop ?_
     refine EQ.to ?_
     refine EQ.keep [1, 5, 11, 12, 13] [(1, .slice a3 a2.length a5), (5, .slice a8 a6.length a9), (11, .slice (some b2) a0.length a4), (12, .int .i64 (a0.length : Int)), (13, .int .i64 a1)] (by kernel_rfl) ?_
     exact fun a ha => ⟨a6, b4, a8, a9, ha, (hS.re [3, 3, 3, 3] [] rfl (sub_cons 0 rfl (sub_tail (sub_self)))), H⟩
   ·obtain ⟨b3, d2, b6, b7, ha, hS, H⟩ := hI
    rw [d7] at H
    (try dsimp only at H)
    refine EW.at ?_ a ha
    clear ha a
    refine EW.region (id := 7) (ops := Cd37.r.r.l.r.l.l.r.r.r.ops) (by kernel_rfl) ?_
    refine EL.quick 2 [1, 5, 11, 12, 13] [(1, .slice a3 a2.length a5), (5, .slice b6 b3.length b7), (11, .slice a7 a0.length a4), (12, .int .i64 (a0.length : Int)), (13, .int .i64 (IntKind.i64.wrap (a1 + 1)))] (by kernel_rfl) ?_
    refine EL.done (by kernel_rfl) ?_
    refine EQ.to ?_
    refine EQ.keep [1, 5, 11, 12, 13] [(1, .slice a3 a2.length a5), (5, .slice b6 b3.length b7), (11, .slice a7 a0.length a4), (12, .int .i64 (a0.length : Int)), (13, .int .i64 (IntKind.i64.wrap (a1 + 1)))] (by kernel_rfl) ?_
    exact fun a ha => ⟨n, Nat.lt_succ_self n, b3, IntKind.i64.wrap (a1 + 1), b6, b7, ha, (hS.re [3, 3, 3] [3] rfl (sub_cons 0 rfl (sub_tail (sub_self)))), H⟩
  ·rw [if_neg b8] at H
   refine EW.exit (id := 0) (by kernel_rfl) ?_
   refine EQ.exitCode ?_
   refine EQ.exitTo ?_
   refine EQ.exitHere ?_
   refine EQ.code ?_
   refine EW.seq (x := Cd37.r.r.r.l) (y := Cd37.r.r.r.r) (by kernel_rfl) ?_
   refine EW.region (id := 8) (ops := Cd37.r.r.r.l.ops) (by kernel_rfl) ?_
   refine EL.quick 2 [4] [(4, .slice a8 a6.length a9)] (by kernel_rfl) ?_
   refine EL.done (by kernel_rfl) ?_
   refine EQ.code ?_
   refine EW.ret (by kernel_rfl) ?_
   simp only [Option.some.injEq, Prod.mk.injEq] at H
   obtain ⟨rfl, rfl⟩ := H
   exact EQ.leave (.slice a8 a6.length a9) (by kernel_rfl) ⟨_, rfl, a7, a4, a8, a9, rfl, (hS.re [2, 2, 2] [] rfl (sub_cons 0 rfl (sub_self)))⟩

end Go.Proofs.Ytipaaapbapijhaa.G
