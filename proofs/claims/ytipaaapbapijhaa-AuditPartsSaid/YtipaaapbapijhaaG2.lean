import Derived.Test.YtipaaapbapijhaaProg
import Derived.Test.YtipaaapbapijhaaFwEq
import Derived.Test.YtipaaapbapijhaaFwOpen
import Derived.Test.YtipaaapbapijhaaG0
import Derived.Test.YtipaaapbapijhaaG1
namespace Go.Proofs.Ytipaaapbapijhaa.G
open Go Go.Fw Go.RowKit Go.Proofs
set_option linter.unusedVariables false
set_option linter.unusedSimpArgs false

/-! ### confidant/confidantlaw22.AuditParts: function 9 -/
def confidantlaw22_AuditParts.l2 (K : Nat) (a1 : List S69) (a8 : Int) (d6 : (List S69) → Int → Option Bool) (b0 : Int) : Nat → Int → Option Bool
 | 0, _ => none
 | n + 1, a0 => if a0 < (a1.length : Int) then (lt (fun (e5 : Bool) => (if e5 = true then (some false) else (confidantlaw22_AuditParts.l2 K a1 a8 d6 b0 n (IntKind.i64.wrap (a0 + 1))))) fun e2 => (if 0 ≤ a0 then (if ((a1.getD a0.toNat zS69).f2) = a8 then (if ((a1.getD a0.toNat zS69).f0) = a0 then (if a0 > 0 then (if 0 ≤ (IntKind.i64.wrap (a0 - 1)) then (if (IntKind.i64.wrap (a0 - 1)) < (a1.length : Int) then (e2 (decide (((a1.getD a0.toNat zS69).f4) < ((a1.getD (IntKind.i64.wrap (a0 - 1)).toNat zS69).f4)))) else none) else none) else (e2 false)) else (e2 true)) else (e2 true)) else none)) else (d6 a1 (IntKind.i64.wrap (b0 + (a1.length : Int))))
def confidantlaw22_AuditParts.l1 (K : Nat) (b3 : List S69) (d5 : Int → Option Bool) : Nat → Int → Int → Option Bool
 | 0, _, _ => none
 | n + 1, b0, a8 => if a8 < 4 then (lt (fun (g4 : List S69) (d2 : Int) => (confidantlaw22_AuditParts.l1 K b3 d5 n d2 (IntKind.i64.wrap (a8 + 1)))) fun d6 => (lt ([a8] : List Int) fun b6 => (b1 (audit_Log_Of_21.f K b3 b6) fun (a1 : List S69) => (confidantlaw22_AuditParts.l2 K a1 a8 d6 b0 K 0)))) else (d5 b0)
def confidantlaw22_AuditParts.l0 (K : Nat) (a2 : List S69) (d4 : (List S69) → Option Bool) : Nat → (List S69) → Int → Option Bool
 | 0, _, _ => none
 | n + 1, c7, b2 => if b2 < (a2.length : Int) then (if 0 ≤ b2 then (lt ([(⟨(a2.getD b2.toNat zS69).f0, (a2.getD b2.toNat zS69).f1, (a2.getD b2.toNat zS69).f2, (a2.getD b2.toNat zS69).f3, (a2.getD b2.toNat zS69).f4, (a2.getD b2.toNat zS69).f5⟩ : S69)] : List S69) fun e3 => (b1 (audit_Log_Add.f K c7 e3) fun (i6 : List S69) => (confidantlaw22_AuditParts.l0 K a2 d4 n i6 (IntKind.i64.wrap (b2 + 1))))) else none) else (d4 c7)
def confidantlaw22_AuditParts.f (K : Nat) (l6 : List S111) (a9 : Int) (a10 : Int) : Option Bool := b1 (confidantlaw22_known.f K) fun (f7 : Bool) => (if f7 = true then (if (l6.length : Int) > 30 then (some true) else (b1 (confidantlaw22_some.f K l6) fun (a2 : List S69) => (b1 (audit_New.f K) fun (i5 : List S69) => (lt (fun (b3 : List S69) => (lt (fun (d0 : Int) => (if d0 = (a2.length : Int) then (lt ([0, 1, 2, 3] : List Int) fun c0 => (b1 (audit_Log_Of_21.f K b3 c0) fun (c1 : List S69) => (b1 (confidantref21_SameAudit.f K c1 a2) fun (e4 : Bool) => (if e4 = true then (b1 (audit_Log_Of_21.f K b3 ([] : List Int)) fun (c8 : List S69) => (if (c8.length : Int) = 0 then (lt ([a9, a10] : List Int) fun c6 => (b1 (audit_Log_Of_21.f K b3 c6) fun (d7 : List S69) => (lt ([a10, a9, a9] : List Int) fun d1 => (b1 (audit_Log_Of_21.f K b3 d1) fun (f8 : List S69) => (b1 (confidantref21_SameAudit.f K d7 f8) fun (g3 : Bool) => (some g3)))))) else (some false))) else (some false))))) else (some false))) fun d5 => (confidantlaw22_AuditParts.l1 K b3 d5 K 0 0))) fun d4 => (confidantlaw22_AuditParts.l0 K a2 d4 K i5 0))))) else (some false))
set_option maxRecDepth 100000 in
theorem confidantlaw22_AuditParts.calls {K : Nat} {l6 : List S111} {a9 : Int} {a10 : Int} {A7 : Option Addr} {C8 : Nat} {c9 : Bool} {B w : World} {os : List Ass} {rs : List Ro} (H : confidantlaw22_AuditParts.f K l6 a9 a10 = some c9) (hS : St B w (os) (Ro.sl kS111 A7 C8 l6 :: rs)) :
  Calls Try.prog 9 [.slice A7 l6.length C8, .int .i64 a9, .int .i64 a10].toArray w (fun en w' => ∃ v, en = .returned v ∧ v = .bool (c9) ∧ St B w' (os) (Ro.sl kS111 A7 C8 l6 :: rs)) := by
 unfold confidantlaw22_AuditParts.f at H
 refine calls_of_EW (args := [.slice A7 l6.length C8, .int .i64 a9, .int .i64 a10]) (c := Cd9) 118 Try.func9 (by kernel_rfl) (by kernel_rfl) (by kernel_rfl) ?_
 refine EW.seq (x := Cd9.l) (y := Cd9.r) (by kernel_rfl) ?_
 refine EW.region (id := 0) (ops := Cd9.l.ops) (by kernel_rfl) ?_
 refine EL.quick 1 [0, 1, 2] [(0, .slice A7 l6.length C8), (1, .int .i64 a9), (2, .int .i64 a10)] (by kernel_rfl) ?_
 refine EL.done (by kernel_rfl) ?_
 refine EQ.code ?_
 refine EW.seq (x := Cd9.r.l) (y := Cd9.r.r) (by kernel_rfl) ?_
 refine EW.seq (x := Cd9.r.l.l) (y := Cd9.r.l.r) (by kernel_rfl) ?_
 refine EW.region (id := 1) (ops := Cd9.r.l.l.ops) (by kernel_rfl) ?_
 obtain ⟨f7, m0, H⟩ := b1_out H
 refine EL.of (EO.callD 27 [] _ 14 (by kernel_rfl) (by kernel_rfl) (by kernel_rfl) (confidantlaw22_known.calls m0 hS) ?_)
 rintro v w ⟨rfl, hS⟩
 refine EL.quick 1 [0, 1, 2, 15] [(0, .slice A7 l6.length C8), (1, .int .i64 a9), (2, .int .i64 a10), (15, .bool (!(f7)))] (by kernel_rfl) ?_
 refine EL.done (by kernel_rfl) ?_
 refine EQ.code ?_
 refine EW.condQ (b := !(f7)) (o := (.tmp 15)) (x := Cd9.r.l.r.l) (y := Cd9.r.l.r.r) (f7 = true) (false) (by kernel_rfl) (by kernel_rfl) ⟨fun h => (by rw [h] <;> rfl), fun h => (by rw [Bool.eq_false_iff.2 h] <;> rfl)⟩ (fun i0 => ?_) (fun i0 => ?_)
 ·rw [if_pos i0] at H
  refine EW.skip (by kernel_rfl) ?_
  refine EQ.code ?_
  refine EW.seq (x := Cd9.r.r.l) (y := Cd9.r.r.r) (by kernel_rfl) ?_
  refine EW.seq (x := Cd9.r.r.l.l) (y := Cd9.r.r.l.r) (by kernel_rfl) ?_
  refine EW.region (id := 3) (ops := Cd9.r.r.l.l.ops) (by kernel_rfl) ?_
  refine EL.quick 3 [0, 1, 2, 18] [(0, .slice A7 l6.length C8), (1, .int .i64 a9), (2, .int .i64 a10), (18, .bool (decide ((l6.length : Int) > 30)))] (by kernel_rfl) ?_
  refine EL.done (by kernel_rfl) ?_
  refine EQ.code ?_
  refine EW.condP (o := (.tmp 18)) (x := Cd9.r.r.l.r.l) (y := Cd9.r.r.l.r.r) ((l6.length : Int) > 30) (by kernel_rfl) (by kernel_rfl) (fun i1 => ?_) (fun i1 => ?_)
  ·rw [if_pos i1] at H
   refine EW.seq (x := Cd9.r.r.l.r.l.l) (y := Cd9.r.r.l.r.l.r) (by kernel_rfl) ?_
   refine EW.region (id := 4) (ops := Cd9.r.r.l.r.l.l.ops) (by kernel_rfl) ?_
   refine EL.quick 1 [6] [(6, .bool (true))] (by kernel_rfl) ?_
   refine EL.done (by kernel_rfl) ?_
   refine EQ.code ?_
   refine EW.ret (by kernel_rfl) ?_
   refine EQ.ret ?_
   obtain rfl := Option.some.inj H
   exact EQ.leave (.bool (true)) (by kernel_rfl) ⟨_, rfl, rfl, (hS.re [] [] rfl (sub_self))⟩
  ·rw [if_neg i1] at H
   refine EW.skip (by kernel_rfl) ?_
   refine EQ.code ?_
   refine EW.seq (x := Cd9.r.r.r.l) (y := Cd9.r.r.r.r) (by kernel_rfl) ?_
   refine EW.region (id := 5) (ops := Cd9.r.r.r.l.ops) (by kernel_rfl) ?_
   refine EL.quick 1 [1, 2, 19] [(1, .int .i64 a9), (2, .int .i64 a10), (19, .slice A7 l6.length C8)] (by kernel_rfl) ?_
   have hS : St B _ (os) (Ro.sl kS111 A7 C8 l6 :: Ro.sl kS111 A7 C8 l6 :: rs) := hS.re [] [] rfl (sub_cons 0 rfl sub_self)
   obtain ⟨a2, m1, H⟩ := b1_out H
   refine EL.of (EO.callD 28 [.slice A7 l6.length C8] _ 20 (by kernel_rfl) (by kernel_rfl) (by kernel_rfl) (confidantlaw22_some.calls m1 hS) ?_)
   rintro v w ⟨a7, a6, rfl, hS⟩
   refine EL.quick 1 [1, 2, 7] [(1, .int .i64 a9), (2, .int .i64 a10), (7, .slice a7 a2.length a6)] (by kernel_rfl) ?_
   refine EL.done (by kernel_rfl) ?_
   refine EQ.code ?_
   refine EW.seq (x := Cd9.r.r.r.r.l) (y := Cd9.r.r.r.r.r) (by kernel_rfl) ?_
   refine EW.region (id := 6) (ops := Cd9.r.r.r.r.l.ops) (by kernel_rfl) ?_
   obtain ⟨i5, m2, H⟩ := b1_out H
   refine EL.of (EO.callD 29 [] _ 21 (by kernel_rfl) (by kernel_rfl) (by kernel_rfl) (audit_New.calls m2 hS) ?_)
   rintro v w ⟨a4, j6, j8, rfl, hS⟩
   refine EL.quick 1 [1, 2, 7, 8] [(1, .int .i64 a9), (2, .int .i64 a10), (7, .slice a7 a2.length a6), (8, .pointer (some ⟨a4, 0, none⟩))] (by kernel_rfl) ?_
   refine EL.done (by kernel_rfl) ?_
   refine EQ.code ?_
   obtain ⟨d4, n1, H⟩ := lt_out H
   refine EW.cut (x := Cd9.r.r.r.r.r.l) (y := Cd9.r.r.r.r.r.r) (fun a w => ∃ b3 : List S69, ∃ b4 : Option Addr, ∃ b5 : Nat, Sat 118 [(1, .int .i64 a9), (2, .int .i64 a10), (7, .slice a7 a2.length a6), (8, .pointer (some ⟨a4, 0, none⟩))] a ∧ St B w (Ass.box 113 a4 [.slice b4 b3.length b5] :: Ass.own 69 kS69 b4 b5 b3 :: Ass.own 69 kS69 a7 a6 a2 :: os) (Ro.sl kS111 A7 C8 l6 :: Ro.sl kS111 A7 C8 l6 :: rs) ∧ d4 b3 = some c9) (by kernel_rfl) ?_ (fun a w hI => ?_)
   ·refine EW.seq (x := Cd9.r.r.r.r.r.l.l) (y := Cd9.r.r.r.r.r.l.r) (by kernel_rfl) ?_
    refine EW.region (id := 7) (ops := Cd9.r.r.r.r.r.l.l.ops) (by kernel_rfl) ?_
    refine EL.quick 1 [1, 2, 7, 8, 9] [(1, .int .i64 a9), (2, .int .i64 a10), (7, .slice a7 a2.length a6), (8, .pointer (some ⟨a4, 0, none⟩)), (9, .int .i64 0)] (by kernel_rfl) ?_
    refine EL.done (by kernel_rfl) ?_
    refine EQ.code ?_
    refine EW.block (x := Cd9.r.r.r.r.r.l.r.l) (id := 0) (by kernel_rfl) ?_
    refine EW.loop (x := Cd9.r.r.r.r.r.l.r.l.l) (fun n a w => ∃ c7 : List S69, ∃ b2 : Int, ∃ d8 : Option Addr, ∃ d9 : Nat, Sat 118 [(1, .int .i64 a9), (2, .int .i64 a10), (7, .slice a7 a2.length a6), (8, .pointer (some ⟨a4, 0, none⟩)), (9, .int .i64 b2)] a ∧ St B w (Ass.box 113 a4 [.slice d8 c7.length d9] :: Ass.own 69 kS69 d8 d9 c7 :: Ass.own 69 kS69 a7 a6 a2 :: os) (Ro.sl kS111 A7 C8 l6 :: Ro.sl kS111 A7 C8 l6 :: rs) ∧ confidantlaw22_AuditParts.l0 K a2 d4 n c7 b2 = some c9) K (by kernel_rfl) ?_ (fun n a w hI => ?_)
    ·refine EQ.keep [1, 2, 7, 8, 9] [(1, .int .i64 a9), (2, .int .i64 a10), (7, .slice a7 a2.length a6), (8, .pointer (some ⟨a4, 0, none⟩)), (9, .int .i64 0)] (by kernel_rfl) ?_
     exact fun a ha => ⟨i5, 0, j6, j8, ha, (hS.re [2, 2, 2] [] rfl (sub_cons 0 rfl (sub_cons 0 rfl (sub_tail (sub_tail (sub_self)))))), H⟩
    ·obtain ⟨c7, b2, d8, d9, ha, hS, H⟩ := hI
     obtain _ | n := n
     ·simp [confidantlaw22_AuditParts.l0] at H
     rw [confidantlaw22_AuditParts.l0.eq_2] at H
     refine EW.at ?_ a ha
     clear ha a
     refine EW.seq (x := Cd9.r.r.r.r.r.l.r.l.l.l) (y := Cd9.r.r.r.r.r.l.r.l.l.r) (by kernel_rfl) ?_
     refine EW.seq (x := Cd9.r.r.r.r.r.l.r.l.l.l.l) (y := Cd9.r.r.r.r.r.l.r.l.l.l.r) (by kernel_rfl) ?_
     refine EW.region (id := 8) (ops := Cd9.r.r.r.r.r.l.r.l.l.l.l.ops) (by kernel_rfl) ?_
     refine EL.quick 4 [1, 2, 7, 8, 9, 25] [(1, .int .i64 a9), (2, .int .i64 a10), (7, .slice a7 a2.length a6), (8, .pointer (some ⟨a4, 0, none⟩)), (9, .int .i64 b2), (25, .bool (decide (b2 < (a2.length : Int))))] (by kernel_rfl) ?_
     refine EL.done (by kernel_rfl) ?_
     refine EQ.code ?_
     refine EW.condP (o := (.tmp 25)) (x := Cd9.r.r.r.r.r.l.r.l.l.l.r.l) (y := Cd9.r.r.r.r.r.l.r.l.l.l.r.r) (b2 < (a2.length : Int)) (by kernel_rfl) (by kernel_rfl) (fun e0 => ?_) (fun e0 => ?_)
     ·rw [if_pos e0] at H
      refine EW.skip (by kernel_rfl) ?_
      refine EQ.code ?_
      refine EW.seq (x := Cd9.r.r.r.r.r.l.r.l.l.r.l) (y := Cd9.r.r.r.r.r.l.r.l.l.r.r) (by kernel_rfl) ?_
      refine EW.block (x := Cd9.r.r.r.r.r.l.r.l.l.r.l.l) (id := 1) (by kernel_rfl) ?_
      refine EW.region (id := 10) (ops := Cd9.r.r.r.r.r.l.r.l.l.r.l.l.ops) (by kernel_rfl) ?_
      refine EL.quick 3 [1, 2, 7, 8, 9, 28, 29, 30] [(1, .int .i64 a9), (2, .int .i64 a10), (7, .slice a7 a2.length a6), (8, .pointer (some ⟨a4, 0, none⟩)), (9, .int .i64 b2), (28, .pointer (some ⟨a4, 0, none⟩)), (29, .slice a7 a2.length a6), (30, .int .i64 b2)] (by kernel_rfl) ?_
      obtain ⟨i2, H⟩ := ite_in H
      obtain ⟨e8, rfl⟩ := St.rd_some hS (Rd.own 2 69 rfl) i2 e0
      refine EL.of (EO.Y (YO.idx 64 6 e8 a2.length a6 .i64 b2 31 (by kernel_rfl) (by kernel_rfl) (by kernel_rfl) (by kernel_rfl) i2 e0) ?_)
      refine EL.of (EO.Y (YO.loadEl hS kS69 e8 a6 a2 (Rd.own 2 69 rfl) zS69 encS69 encS69_of b2 i2 e0 69 6 0 6 rfl (.agg #[.int .i64 ((a2.getD b2.toNat zS69).f0), .int .i64 ((a2.getD b2.toNat zS69).f1), .int .i64 ((a2.getD b2.toNat zS69).f2), .int .i32 ((a2.getD b2.toNat zS69).f3), .int .i64 ((a2.getD b2.toNat zS69).f4), .int .i32 ((a2.getD b2.toNat zS69).f5)]) 32 (by kernel_rfl) (by kernel_rfl) (by kernel_rfl) (by kernel_rfl)) ?_)
      obtain ⟨e3, j1, H⟩ := lt_out H
      refine EL.of (EO.lit hS kS69 69 64 1 #[(0, .agg #[.int .i64 ((a2.getD b2.toNat zS69).f0), .int .i64 ((a2.getD b2.toNat zS69).f1), .int .i64 ((a2.getD b2.toNat zS69).f2), .int .i32 ((a2.getD b2.toNat zS69).f3), .int .i64 ((a2.getD b2.toNat zS69).f4), .int .i32 ((a2.getD b2.toNat zS69).f5)])] [.int .i64 ((a2.getD b2.toNat zS69).f0), .int .i64 ((a2.getD b2.toNat zS69).f1), .int .i64 ((a2.getD b2.toNat zS69).f2), .int .i32 ((a2.getD b2.toNat zS69).f3), .int .i64 ((a2.getD b2.toNat zS69).f4), .int .i32 ((a2.getD b2.toNat zS69).f5)] e3 33 (by kernel_rfl) (by kernel_rfl) (by kernel_rfl) (fun _ => (by kernel_rfl)) (by rw [j1]; rfl) (by kernel_rfl) (fun w G hr => (by rw [j1]; exact ⟨[.int .i64 ((a2.getD b2.toNat zS69).f0), .int .i64 ((a2.getD b2.toNat zS69).f1), .int .i64 ((a2.getD b2.toNat zS69).f2), .int .i32 ((a2.getD b2.toNat zS69).f3), .int .i64 ((a2.getD b2.toNat zS69).f4), .int .i32 ((a2.getD b2.toNat zS69).f5)], [], rfl, ⟨[.int .i64 ((a2.getD b2.toNat zS69).f0)], [.int .i64 ((a2.getD b2.toNat zS69).f1), .int .i64 ((a2.getD b2.toNat zS69).f2), .int .i32 ((a2.getD b2.toNat zS69).f3), .int .i64 ((a2.getD b2.toNat zS69).f4), .int .i32 ((a2.getD b2.toNat zS69).f5)], rfl, rfl, ⟨[.int .i64 ((a2.getD b2.toNat zS69).f1)], [.int .i64 ((a2.getD b2.toNat zS69).f2), .int .i32 ((a2.getD b2.toNat zS69).f3), .int .i64 ((a2.getD b2.toNat zS69).f4), .int .i32 ((a2.getD b2.toNat zS69).f5)], rfl, rfl, ⟨[.int .i64 ((a2.getD b2.toNat zS69).f2)], [.int .i32 ((a2.getD b2.toNat zS69).f3), .int .i64 ((a2.getD b2.toNat zS69).f4), .int .i32 ((a2.getD b2.toNat zS69).f5)], rfl, rfl, ⟨[.int .i32 ((a2.getD b2.toNat zS69).f3)], [.int .i64 ((a2.getD b2.toNat zS69).f4), .int .i32 ((a2.getD b2.toNat zS69).f5)], rfl, rfl, ⟨[.int .i64 ((a2.getD b2.toNat zS69).f4)], [.int .i32 ((a2.getD b2.toNat zS69).f5)], rfl, rfl, ⟨[.int .i32 ((a2.getD b2.toNat zS69).f5)], [], rfl, rfl, rfl⟩⟩⟩⟩⟩⟩, rfl⟩)) ?_)
      intro g9 w hS
      have hS := St.fr hS 0 rfl
      have hS : St B _ (Ass.box 113 a4 [.slice d8 c7.length d9] :: Ass.own 69 kS69 d8 d9 c7 :: Ass.own 69 kS69 (some e8) a6 a2 :: os) (Ro.sl kS69 (some ⟨g9, 0, none⟩) 1 e3 :: Ro.sl kS69 (some ⟨g9, 0, none⟩) 1 e3 :: Ro.sl kS111 A7 C8 l6 :: Ro.sl kS111 A7 C8 l6 :: rs) := hS.re [1, 1] [] rfl (sub_cons 0 rfl sub_self)
      obtain ⟨i6, m3, H⟩ := b1_out H
      refine EL.of (EO.callD 30 [.pointer (some ⟨a4, 0, none⟩), .slice (some ⟨g9, 0, none⟩) e3.length 1] _ 34 (by kernel_rfl) (by kernel_rfl) (by kernel_rfl) (audit_Log_Add.calls m3 hS) ?_)
      rintro v w ⟨j7, j9, rfl, hS⟩
      refine EL.done (by kernel_rfl) ?_
      refine EQ.pop ?_
      refine EQ.code ?_
      refine EW.region (id := 9) (ops := Cd9.r.r.r.r.r.l.r.l.l.r.r.ops) (by kernel_rfl) ?_
      refine EL.quick 3 [1, 2, 7, 8, 9] [(1, .int .i64 a9), (2, .int .i64 a10), (7, .slice (some e8) a2.length a6), (8, .pointer (some ⟨a4, 0, none⟩)), (9, .int .i64 (IntKind.i64.wrap (b2 + 1)))] (by kernel_rfl) ?_
      refine EL.done (by kernel_rfl) ?_
      refine EQ.to ?_
      refine EQ.keep [1, 2, 7, 8, 9] [(1, .int .i64 a9), (2, .int .i64 a10), (7, .slice (some e8) a2.length a6), (8, .pointer (some ⟨a4, 0, none⟩)), (9, .int .i64 (IntKind.i64.wrap (b2 + 1)))] (by kernel_rfl) ?_
      exact fun a ha => ⟨n, Nat.lt_succ_self n, i6, IntKind.i64.wrap (b2 + 1), j7, j9, ha, (hS.re [2, 2, 2] [] rfl (sub_cons 2 rfl (sub_cons 2 rfl (sub_tail (sub_tail (sub_tail (sub_tail (sub_self)))))))), H⟩
     ·rw [if_neg e0] at H
      refine EW.exit (id := 0) (by kernel_rfl) ?_
      refine EQ.exitCode ?_
      refine EQ.exitTo ?_
      refine EQ.exitHere ?_
      refine EQ.to ?_
      refine EQ.keep [1, 2, 7, 8] [(1, .int .i64 a9), (2, .int .i64 a10), (7, .slice a7 a2.length a6), (8, .pointer (some ⟨a4, 0, none⟩))] (by kernel_rfl) ?_
      exact fun a ha => ⟨c7, d8, d9, ha, (hS.re [2, 2, 2] [] rfl (sub_cons 0 rfl (sub_cons 0 rfl (sub_tail (sub_tail (sub_self)))))), H⟩
   ·obtain ⟨b3, b4, b5, ha, hS, H⟩ := hI
    rw [n1] at H
    (try dsimp only at H)
    refine EW.at ?_ a ha
    clear ha a
    refine EW.seq (x := Cd9.r.r.r.r.r.r.l) (y := Cd9.r.r.r.r.r.r.r) (by kernel_rfl) ?_
    refine EW.region (id := 11) (ops := Cd9.r.r.r.r.r.r.l.ops) (by kernel_rfl) ?_
    refine EL.quick 1 [1, 2, 7, 8, 10] [(1, .int .i64 a9), (2, .int .i64 a10), (7, .slice a7 a2.length a6), (8, .pointer (some ⟨a4, 0, none⟩)), (10, .int .i64 0)] (by kernel_rfl) ?_
    refine EL.done (by kernel_rfl) ?_
    refine EQ.code ?_
    obtain ⟨d5, n2, H⟩ := lt_out H
    refine EW.cut (x := Cd9.r.r.r.r.r.r.r.l) (y := Cd9.r.r.r.r.r.r.r.r) (fun a w => ∃ d0 : Int, Sat 118 [(1, .int .i64 a9), (2, .int .i64 a10), (7, .slice a7 a2.length a6), (8, .pointer (some ⟨a4, 0, none⟩)), (10, .int .i64 d0)] a ∧ St B w (Ass.box 113 a4 [.slice b4 b3.length b5] :: Ass.own 69 kS69 b4 b5 b3 :: Ass.own 69 kS69 a7 a6 a2 :: os) (Ro.sl kS111 A7 C8 l6 :: Ro.sl kS111 A7 C8 l6 :: rs) ∧ d5 d0 = some c9) (by kernel_rfl) ?_ (fun a w hI => ?_)
    ·refine EW.seq (x := Cd9.r.r.r.r.r.r.r.l.l) (y := Cd9.r.r.r.r.r.r.r.l.r) (by kernel_rfl) ?_
     refine EW.region (id := 12) (ops := Cd9.r.r.r.r.r.r.r.l.l.ops) (by kernel_rfl) ?_
     refine EL.quick 1 [1, 2, 7, 8, 10, 11] [(1, .int .i64 a9), (2, .int .i64 a10), (7, .slice a7 a2.length a6), (8, .pointer (some ⟨a4, 0, none⟩)), (10, .int .i64 0), (11, .int .i64 0)] (by kernel_rfl) ?_
     refine EL.done (by kernel_rfl) ?_
     refine EQ.code ?_
     refine EW.block (x := Cd9.r.r.r.r.r.r.r.l.r.l) (id := 2) (by kernel_rfl) ?_
     refine EW.loop (x := Cd9.r.r.r.r.r.r.r.l.r.l.l) (fun n a w => ∃ b0 : Int, ∃ a8 : Int, Sat 118 [(1, .int .i64 a9), (2, .int .i64 a10), (7, .slice a7 a2.length a6), (8, .pointer (some ⟨a4, 0, none⟩)), (10, .int .i64 b0), (11, .int .i64 a8)] a ∧ St B w (Ass.box 113 a4 [.slice b4 b3.length b5] :: Ass.own 69 kS69 b4 b5 b3 :: Ass.own 69 kS69 a7 a6 a2 :: os) (Ro.sl kS111 A7 C8 l6 :: Ro.sl kS111 A7 C8 l6 :: rs) ∧ confidantlaw22_AuditParts.l1 K b3 d5 n b0 a8 = some c9) K (by kernel_rfl) ?_ (fun n a w hI => ?_)
     ·refine EQ.keep [1, 2, 7, 8, 10, 11] [(1, .int .i64 a9), (2, .int .i64 a10), (7, .slice a7 a2.length a6), (8, .pointer (some ⟨a4, 0, none⟩)), (10, .int .i64 0), (11, .int .i64 0)] (by kernel_rfl) ?_
      exact fun a ha => ⟨0, 0, ha, (hS.re [2, 2, 2] [] rfl (sub_cons 0 rfl (sub_cons 0 rfl (sub_tail (sub_tail (sub_self)))))), H⟩
     ·obtain ⟨b0, a8, ha, hS, H⟩ := hI
      obtain _ | n := n
      ·simp [confidantlaw22_AuditParts.l1] at H
      rw [confidantlaw22_AuditParts.l1.eq_2] at H
      refine EW.at ?_ a ha
      clear ha a
      refine EW.seq (x := Cd9.r.r.r.r.r.r.r.l.r.l.l.l) (y := Cd9.r.r.r.r.r.r.r.l.r.l.l.r) (by kernel_rfl) ?_
      refine EW.seq (x := Cd9.r.r.r.r.r.r.r.l.r.l.l.l.l) (y := Cd9.r.r.r.r.r.r.r.l.r.l.l.l.r) (by kernel_rfl) ?_
      refine EW.region (id := 13) (ops := Cd9.r.r.r.r.r.r.r.l.r.l.l.l.l.ops) (by kernel_rfl) ?_
      refine EL.quick 2 [1, 2, 7, 8, 10, 11, 36] [(1, .int .i64 a9), (2, .int .i64 a10), (7, .slice a7 a2.length a6), (8, .pointer (some ⟨a4, 0, none⟩)), (10, .int .i64 b0), (11, .int .i64 a8), (36, .bool (decide (a8 < 4)))] (by kernel_rfl) ?_
      refine EL.done (by kernel_rfl) ?_
      refine EQ.code ?_
      refine EW.condP (o := (.tmp 36)) (x := Cd9.r.r.r.r.r.r.r.l.r.l.l.l.r.l) (y := Cd9.r.r.r.r.r.r.r.l.r.l.l.l.r.r) (a8 < 4) (by kernel_rfl) (by kernel_rfl) (fun i3 => ?_) (fun i3 => ?_)
      ·rw [if_pos i3] at H
       refine EW.skip (by kernel_rfl) ?_
       refine EQ.code ?_
       obtain ⟨d6, n3, H⟩ := lt_out H
       refine EW.cut (x := Cd9.r.r.r.r.r.r.r.l.r.l.l.r.l) (y := Cd9.r.r.r.r.r.r.r.l.r.l.l.r.r) (fun a w => ∃ g4 : List S69, ∃ d2 : Int, ∃ i7 : Option Addr, ∃ i8 : Nat, Sat 118 [(1, .int .i64 a9), (2, .int .i64 a10), (7, .slice a7 a2.length a6), (8, .pointer (some ⟨a4, 0, none⟩)), (10, .int .i64 d2), (11, .int .i64 a8)] a ∧ St B w (Ass.box 113 a4 [.slice b4 b3.length b5] :: Ass.own 69 kS69 b4 b5 b3 :: Ass.own 69 kS69 i7 i8 g4 :: Ass.own 69 kS69 a7 a6 a2 :: os) (Ro.sl kS111 A7 C8 l6 :: Ro.sl kS111 A7 C8 l6 :: rs) ∧ d6 g4 d2 = some c9) (by kernel_rfl) ?_ (fun a w hI => ?_)
       ·refine EW.block (x := Cd9.r.r.r.r.r.r.r.l.r.l.l.r.l.l) (id := 3) (by kernel_rfl) ?_
        refine EW.seq (x := Cd9.r.r.r.r.r.r.r.l.r.l.l.r.l.l.l) (y := Cd9.r.r.r.r.r.r.r.l.r.l.l.r.l.l.r) (by kernel_rfl) ?_
        refine EW.region (id := 15) (ops := Cd9.r.r.r.r.r.r.r.l.r.l.l.r.l.l.l.ops) (by kernel_rfl) ?_
        refine EL.quick 2 [1, 2, 7, 8, 10, 11, 39, 40] [(1, .int .i64 a9), (2, .int .i64 a10), (7, .slice a7 a2.length a6), (8, .pointer (some ⟨a4, 0, none⟩)), (10, .int .i64 b0), (11, .int .i64 a8), (39, .pointer (some ⟨a4, 0, none⟩)), (40, .int .i64 a8)] (by kernel_rfl) ?_
        obtain ⟨b6, j2, H⟩ := lt_out H
        refine EL.of (EO.lit hS (Kd.int .i64) 3 66 1 #[(0, .int .i64 a8)] [.int .i64 a8] b6 41 (by kernel_rfl) (by kernel_rfl) (by kernel_rfl) (fun _ => (by kernel_rfl)) (by rw [j2]; rfl) (by kernel_rfl) (fun w G hr => (by rw [j2]; exact ⟨[.int .i64 a8], [], rfl, rfl, rfl⟩)) ?_)
        intro b7 w hS
        have hS := St.fr hS 0 rfl
        have hS : St B _ (Ass.box 113 a4 [.slice b4 b3.length b5] :: Ass.own 69 kS69 b4 b5 b3 :: Ass.own 69 kS69 a7 a6 a2 :: os) (Ro.sl (Kd.int .i64) (some ⟨b7, 0, none⟩) 1 b6 :: Ro.sl (Kd.int .i64) (some ⟨b7, 0, none⟩) 1 b6 :: Ro.sl kS111 A7 C8 l6 :: Ro.sl kS111 A7 C8 l6 :: rs) := hS.re [1, 1] [] rfl (sub_cons 0 rfl sub_self)
        obtain ⟨a1, m4, H⟩ := b1_out H
        refine EL.of (EO.callD 37 [.pointer (some ⟨a4, 0, none⟩), .slice (some ⟨b7, 0, none⟩) b6.length 1] _ 42 (by kernel_rfl) (by kernel_rfl) (by kernel_rfl) (audit_Log_Of_21.calls m4 hS) ?_)
        rintro v w ⟨c3, a5, rfl, hS⟩
        refine EL.quick 1 [1, 2, 7, 8, 10, 11, 12] [(1, .int .i64 a9), (2, .int .i64 a10), (7, .slice a7 a2.length a6), (8, .pointer (some ⟨a4, 0, none⟩)), (10, .int .i64 b0), (11, .int .i64 a8), (12, .slice c3 a1.length a5)] (by kernel_rfl) ?_
        refine EL.done (by kernel_rfl) ?_
        refine EQ.code ?_
        refine EW.seq (x := Cd9.r.r.r.r.r.r.r.l.r.l.l.r.l.l.r.l) (y := Cd9.r.r.r.r.r.r.r.l.r.l.l.r.l.l.r.r) (by kernel_rfl) ?_
        refine EW.region (id := 16) (ops := Cd9.r.r.r.r.r.r.r.l.r.l.l.r.l.l.r.l.ops) (by kernel_rfl) ?_
        refine EL.quick 5 [1, 2, 7, 8, 10, 11, 12] [(1, .int .i64 a9), (2, .int .i64 a10), (7, .slice a7 a2.length a6), (8, .pointer (some ⟨a4, 0, none⟩)), (10, .int .i64 (IntKind.i64.wrap (b0 + (a1.length : Int)))), (11, .int .i64 a8), (12, .slice c3 a1.length a5)] (by kernel_rfl) ?_
        refine EL.done (by kernel_rfl) ?_
        refine EQ.code ?_
        refine EW.seq (x := Cd9.r.r.r.r.r.r.r.l.r.l.l.r.l.l.r.r.l) (y := Cd9.r.r.r.r.r.r.r.l.r.l.l.r.l.l.r.r.r) (by kernel_rfl) ?_
        refine EW.region (id := 17) (ops := Cd9.r.r.r.r.r.r.r.l.r.l.l.r.l.l.r.r.l.ops) (by kernel_rfl) ?_
        refine EL.quick 1 [1, 2, 7, 8, 10, 11, 12, 13] [(1, .int .i64 a9), (2, .int .i64 a10), (7, .slice a7 a2.length a6), (8, .pointer (some ⟨a4, 0, none⟩)), (10, .int .i64 (IntKind.i64.wrap (b0 + (a1.length : Int)))), (11, .int .i64 a8), (12, .slice c3 a1.length a5), (13, .int .i64 0)] (by kernel_rfl) ?_
        refine EL.done (by kernel_rfl) ?_
        refine EQ.code ?_
        refine EW.block (x := Cd9.r.r.r.r.r.r.r.l.r.l.l.r.l.l.r.r.r.l) (id := 4) (by kernel_rfl) ?_
        refine EW.loop (x := Cd9.r.r.r.r.r.r.r.l.r.l.l.r.l.l.r.r.r.l.l) (fun n a w => ∃ a0 : Int, Sat 118 [(1, .int .i64 a9), (2, .int .i64 a10), (7, .slice a7 a2.length a6), (8, .pointer (some ⟨a4, 0, none⟩)), (10, .int .i64 (IntKind.i64.wrap (b0 + (a1.length : Int)))), (11, .int .i64 a8), (12, .slice c3 a1.length a5), (13, .int .i64 a0)] a ∧ St B w (Ass.box 113 a4 [.slice b4 b3.length b5] :: Ass.own 69 kS69 b4 b5 b3 :: Ass.own 69 kS69 c3 a5 a1 :: Ass.own 69 kS69 a7 a6 a2 :: os) (Ro.sl (Kd.int .i64) (some ⟨b7, 0, none⟩) 1 b6 :: Ro.sl (Kd.int .i64) (some ⟨b7, 0, none⟩) 1 b6 :: Ro.sl kS111 A7 C8 l6 :: Ro.sl kS111 A7 C8 l6 :: rs) ∧ confidantlaw22_AuditParts.l2 K a1 a8 d6 b0 n a0 = some c9) K (by kernel_rfl) ?_ (fun n a w hI => ?_)
        ·refine EQ.keep [1, 2, 7, 8, 10, 11, 12, 13] [(1, .int .i64 a9), (2, .int .i64 a10), (7, .slice a7 a2.length a6), (8, .pointer (some ⟨a4, 0, none⟩)), (10, .int .i64 (IntKind.i64.wrap (b0 + (a1.length : Int)))), (11, .int .i64 a8), (12, .slice c3 a1.length a5), (13, .int .i64 0)] (by kernel_rfl) ?_
         exact fun a ha => ⟨0, ha, (hS.re [3, 3, 3, 3] [] rfl (sub_cons 0 rfl (sub_cons 0 rfl (sub_cons 2 rfl (sub_cons 2 rfl (sub_tail (sub_tail (sub_tail (sub_tail (sub_self)))))))))), H⟩
        ·obtain ⟨a0, ha, hS, H⟩ := hI
         obtain _ | n := n
         ·simp [confidantlaw22_AuditParts.l2] at H
         rw [confidantlaw22_AuditParts.l2.eq_2] at H
         refine EW.at ?_ a ha
         clear ha a
         refine EW.seq (x := Cd9.r.r.r.r.r.r.r.l.r.l.l.r.l.l.r.r.r.l.l.l) (y := Cd9.r.r.r.r.r.r.r.l.r.l.l.r.l.l.r.r.r.l.l.r) (by kernel_rfl) ?_
         refine EW.seq (x := Cd9.r.r.r.r.r.r.r.l.r.l.l.r.l.l.r.r.r.l.l.l.l) (y := Cd9.r.r.r.r.r.r.r.l.r.l.l.r.l.l.r.r.r.l.l.l.r) (by kernel_rfl) ?_
         refine EW.region (id := 18) (ops := Cd9.r.r.r.r.r.r.r.l.r.l.l.r.l.l.r.r.r.l.l.l.l.ops) (by kernel_rfl) ?_
         refine EL.quick 4 [1, 2, 7, 8, 10, 11, 12, 13, 50] [(1, .int .i64 a9), (2, .int .i64 a10), (7, .slice a7 a2.length a6), (8, .pointer (some ⟨a4, 0, none⟩)), (10, .int .i64 (IntKind.i64.wrap (b0 + (a1.length : Int)))), (11, .int .i64 a8), (12, .slice c3 a1.length a5), (13, .int .i64 a0), (50, .bool (decide (a0 < (a1.length : Int))))] (by kernel_rfl) ?_
         refine EL.done (by kernel_rfl) ?_
         refine EQ.code ?_
         refine EW.condP (o := (.tmp 50)) (x := Cd9.r.r.r.r.r.r.r.l.r.l.l.r.l.l.r.r.r.l.l.l.r.l) (y := Cd9.r.r.r.r.r.r.r.l.r.l.l.r.l.l.r.r.r.l.l.l.r.r) (a0 < (a1.length : Int)) (by kernel_rfl) (by kernel_rfl) (fun b8 => ?_) (fun b8 => ?_)
         ·rw [if_pos b8] at H
          refine EW.skip (by kernel_rfl) ?_
          refine EQ.code ?_
          refine EW.seq (x := Cd9.r.r.r.r.r.r.r.l.r.l.l.r.l.l.r.r.r.l.l.r.l) (y := Cd9.r.r.r.r.r.r.r.l.r.l.l.r.l.l.r.r.r.l.l.r.r) (by kernel_rfl) ?_
          refine EW.block (x := Cd9.r.r.r.r.r.r.r.l.r.l.l.r.l.l.r.r.r.l.l.r.l.l) (id := 5) (by kernel_rfl) ?_
          obtain ⟨e2, n4, H⟩ := lt_out H
          refine EW.cut (x := Cd9.r.r.r.r.r.r.r.l.r.l.l.r.l.l.r.r.r.l.l.r.l.l.l) (y := Cd9.r.r.r.r.r.r.r.l.r.l.l.r.l.l.r.r.r.l.l.r.l.l.r) (fun a w => ∃ e5 : Bool, Sat 118 [(1, .int .i64 a9), (2, .int .i64 a10), (7, .slice a7 a2.length a6), (8, .pointer (some ⟨a4, 0, none⟩)), (10, .int .i64 (IntKind.i64.wrap (b0 + (a1.length : Int)))), (11, .int .i64 a8), (12, .slice c3 a1.length a5), (13, .int .i64 a0), (86, .bool (e5))] a ∧ St B w (Ass.box 113 a4 [.slice b4 b3.length b5] :: Ass.own 69 kS69 b4 b5 b3 :: Ass.own 69 kS69 c3 a5 a1 :: Ass.own 69 kS69 a7 a6 a2 :: os) (Ro.sl (Kd.int .i64) (some ⟨b7, 0, none⟩) 1 b6 :: Ro.sl (Kd.int .i64) (some ⟨b7, 0, none⟩) 1 b6 :: Ro.sl kS111 A7 C8 l6 :: Ro.sl kS111 A7 C8 l6 :: rs) ∧ e2 e5 = some c9) (by kernel_rfl) ?_ (fun a w hI => ?_)
          ·obtain ⟨b9, H⟩ := ite_in H
           obtain ⟨a3, rfl⟩ := St.rd_some hS (Rd.own 2 69 rfl) b9 b8
           by_cases e1 : ((a1.getD a0.toNat zS69).f2) = a8
           ·rw [if_pos e1] at H
            by_cases f6 : ((a1.getD a0.toNat zS69).f0) = a0
            ·rw [if_pos f6] at H
             by_cases f9 : a0 > 0
             ·rw [if_pos f9] at H
              obtain ⟨i9, H⟩ := ite_in H
              obtain ⟨j0, H⟩ := ite_in H
              have hS := hS.drew
              refine EW.draw (B := B) (id := 20) (ops := Cd9.r.r.r.r.r.r.r.l.r.l.l.r.l.l.r.r.r.l.l.r.l.l.l.ops) [Ass.box 113 a4 [.slice b4 b3.length b5], Ass.own 69 kS69 b4 b5 b3, Ass.own 69 kS69 (some a3) a5 a1, Ass.own 69 kS69 a7 a6 a2] [Ro.sl (Kd.int .i64) (some ⟨b7, 0, none⟩) 1 b6, Ro.sl (Kd.int .i64) (some ⟨b7, 0, none⟩) 1 b6, Ro.sl kS111 A7 C8 l6, Ro.sl kS111 A7 C8 l6] (by kernel_rfl) (by kernel_rfl) ?_
              have hN : Region.noSelect Cd9.r.r.r.r.r.r.r.l.r.l.l.r.l.l.r.r.r.l.l.r.l.l.l.ops = true := (by kernel_rfl)
              have hF : freeAll Cd9.r.r.r.r.r.r.r.l.r.l.l.r.l.l.r.r.r.l.l.r.l.l.l.ops = true := (by kernel_rfl)
              have hC : Core B [Ass.box 113 a4 [.slice b4 b3.length b5], Ass.own 69 kS69 b4 b5 b3, Ass.own 69 kS69 (some a3) a5 a1, Ass.own 69 kS69 a7 a6 a2] [Ro.sl (Kd.int .i64) (some ⟨b7, 0, none⟩) 1 b6, Ro.sl (Kd.int .i64) (some ⟨b7, 0, none⟩) 1 b6, Ro.sl kS111 A7 C8 l6, Ro.sl kS111 A7 C8 l6] _ := ⟨_, _, hS⟩
              refine ED.quick hN hF hC [0, 1, 5] [1, 2, 7, 8, 10, 11, 12, 13, 53, 54, 58] 31 [(1, .int .i64 a9), (2, .int .i64 a10), (7, .slice a7 a2.length a6), (8, .pointer (some ⟨a4, 0, none⟩)), (10, .int .i64 (IntKind.i64.wrap (b0 + (a1.length : Int)))), (11, .int .i64 a8), (12, .slice (some a3) a1.length a5), (13, .int .i64 a0), (53, .slice (some a3) a1.length a5), (54, .int .i64 a0), (58, .int .i64 a8)] #[true, true, false, false, false, true, false, false, false, false, false, false, false, false, false, false, false, false, false, false, false, false, false, false, false, false, false, false, false, false, false, false, false, false] (by kernel_rfl) (by kernel_rfl) ?_
              refine ED.Y hN hF hC 2 30 #[true, true, true, false, false, true, false, false, false, false, false, false, false, false, false, false, false, false, false, false, false, false, false, false, false, false, false, false, false, false, false, false, false, false] (by kernel_rfl) (by kernel_rfl) rfl (fun _ _ _ hS => YO.idx 64 6 a3 a1.length a5 .i64 a0 55 (by kernel_rfl) (by kernel_rfl) (by kernel_rfl) (by kernel_rfl) b9 b8) ?_
              refine ED.quick hN hF hC [3] [1, 2, 7, 8, 10, 11, 12, 13, 56, 58] 29 [(1, .int .i64 a9), (2, .int .i64 a10), (7, .slice a7 a2.length a6), (8, .pointer (some ⟨a4, 0, none⟩)), (10, .int .i64 (IntKind.i64.wrap (b0 + (a1.length : Int)))), (11, .int .i64 a8), (12, .slice (some a3) a1.length a5), (13, .int .i64 a0), (56, .pointer (some ((a3.add (a0.toNat * 6)).add 2))), (58, .int .i64 a8)] #[true, true, true, true, false, true, false, false, false, false, false, false, false, false, false, false, false, false, false, false, false, false, false, false, false, false, false, false, false, false, false, false, false, false] (by kernel_rfl) (by kernel_rfl) ?_
              refine ED.Y hN hF hC 4 28 #[true, true, true, true, true, true, false, false, false, false, false, false, false, false, false, false, false, false, false, false, false, false, false, false, false, false, false, false, false, false, false, false, false, false] (by kernel_rfl) (by kernel_rfl) rfl (fun _ _ _ hS => YO.loadEl hS kS69 a3 a5 a1 (Rd.own 2 69 rfl) zS69 encS69 encS69_of a0 b9 b8 3 6 2 1 rfl (.int .i64 ((a1.getD a0.toNat zS69).f2)) 57 (by kernel_rfl) (by kernel_rfl) (by kernel_rfl) (by kernel_rfl)) ?_
              refine ED.quick hN hF hC [6, 7] [1, 2, 7, 8, 10, 11, 12, 13, 60] 26 [(1, .int .i64 a9), (2, .int .i64 a10), (7, .slice a7 a2.length a6), (8, .pointer (some ⟨a4, 0, none⟩)), (10, .int .i64 (IntKind.i64.wrap (b0 + (a1.length : Int)))), (11, .int .i64 a8), (12, .slice (some a3) a1.length a5), (13, .int .i64 a0), (60, .bool (!(decide (((a1.getD a0.toNat zS69).f2) = a8))))] #[true, true, true, true, true, true, true, true, false, false, false, false, false, false, false, false, false, false, false, false, false, false, false, false, false, false, false, false, false, false, false, false, false, false] (by kernel_rfl) (by kernel_rfl) ?_
              refine ED.keep [1, 2, 7, 8, 10, 11, 12, 13, 60] [(1, .int .i64 a9), (2, .int .i64 a10), (7, .slice a7 a2.length a6), (8, .pointer (some ⟨a4, 0, none⟩)), (10, .int .i64 (IntKind.i64.wrap (b0 + (a1.length : Int)))), (11, .int .i64 a8), (12, .slice (some a3) a1.length a5), (13, .int .i64 a0), (60, .bool (!(decide (((a1.getD a0.toNat zS69).f2) = a8))))] (by kernel_rfl) ?_
              refine ED.as' [(1, .int .i64 a9), (2, .int .i64 a10), (7, .slice a7 a2.length a6), (8, .pointer (some ⟨a4, 0, none⟩)), (10, .int .i64 (IntKind.i64.wrap (b0 + (a1.length : Int)))), (11, .int .i64 a8), (12, .slice (some a3) a1.length a5), (13, .int .i64 a0), (60, .bool (false))] (by simp only [dec_t e1, Bool.not_true, Bool.not_false]) ?_
              refine ED.quick hN hF hC [8, 9, 13] [1, 2, 7, 8, 10, 11, 12, 13, 60, 61, 62, 66] 23 [(1, .int .i64 a9), (2, .int .i64 a10), (7, .slice a7 a2.length a6), (8, .pointer (some ⟨a4, 0, none⟩)), (10, .int .i64 (IntKind.i64.wrap (b0 + (a1.length : Int)))), (11, .int .i64 a8), (12, .slice (some a3) a1.length a5), (13, .int .i64 a0), (60, .bool (false)), (61, .slice (some a3) a1.length a5), (62, .int .i64 a0), (66, .int .i64 a0)] #[true, true, true, true, true, true, true, true, true, true, false, false, false, true, false, false, false, false, false, false, false, false, false, false, false, false, false, false, false, false, false, false, false, false] (by kernel_rfl) (by kernel_rfl) ?_
              refine ED.Y hN hF hC 10 22 #[true, true, true, true, true, true, true, true, true, true, true, false, false, true, false, false, false, false, false, false, false, false, false, false, false, false, false, false, false, false, false, false, false, false] (by kernel_rfl) (by kernel_rfl) rfl (fun _ _ _ hS => YO.idx 64 6 a3 a1.length a5 .i64 a0 63 (by kernel_rfl) (by kernel_rfl) (by kernel_rfl) (by kernel_rfl) b9 b8) ?_
              refine ED.quick hN hF hC [11] [1, 2, 7, 8, 10, 11, 12, 13, 60, 61, 62, 63, 64, 66] 21 [(1, .int .i64 a9), (2, .int .i64 a10), (7, .slice a7 a2.length a6), (8, .pointer (some ⟨a4, 0, none⟩)), (10, .int .i64 (IntKind.i64.wrap (b0 + (a1.length : Int)))), (11, .int .i64 a8), (12, .slice (some a3) a1.length a5), (13, .int .i64 a0), (60, .bool (false)), (61, .slice (some a3) a1.length a5), (62, .int .i64 a0), (63, .pointer (some ((a3.add (a0.toNat * 6)).add 0))), (64, .pointer (some ((a3.add (a0.toNat * 6)).add 0))), (66, .int .i64 a0)] #[true, true, true, true, true, true, true, true, true, true, true, true, false, true, false, false, false, false, false, false, false, false, false, false, false, false, false, false, false, false, false, false, false, false] (by kernel_rfl) (by kernel_rfl) ?_
              refine ED.Y hN hF hC 12 20 #[true, true, true, true, true, true, true, true, true, true, true, true, true, true, false, false, false, false, false, false, false, false, false, false, false, false, false, false, false, false, false, false, false, false] (by kernel_rfl) (by kernel_rfl) rfl (fun _ _ _ hS => YO.loadEl hS kS69 a3 a5 a1 (Rd.own 2 69 rfl) zS69 encS69 encS69_of a0 b9 b8 3 6 0 1 rfl (.int .i64 ((a1.getD a0.toNat zS69).f0)) 65 (by kernel_rfl) (by kernel_rfl) (by kernel_rfl) (by kernel_rfl)) ?_
              refine ED.quick hN hF hC [14, 15, 16] [1, 2, 7, 8, 10, 11, 12, 13, 61, 62, 63, 64, 65, 66, 67, 69] 17 [(1, .int .i64 a9), (2, .int .i64 a10), (7, .slice a7 a2.length a6), (8, .pointer (some ⟨a4, 0, none⟩)), (10, .int .i64 (IntKind.i64.wrap (b0 + (a1.length : Int)))), (11, .int .i64 a8), (12, .slice (some a3) a1.length a5), (13, .int .i64 a0), (61, .slice (some a3) a1.length a5), (62, .int .i64 a0), (63, .pointer (some ((a3.add (a0.toNat * 6)).add 0))), (64, .pointer (some ((a3.add (a0.toNat * 6)).add 0))), (65, .int .i64 ((a1.getD a0.toNat zS69).f0)), (66, .int .i64 a0), (67, .bool (!(decide (((a1.getD a0.toNat zS69).f0) = a0)))), (69, .bool (!(decide (((a1.getD a0.toNat zS69).f0) = a0))))] #[true, true, true, true, true, true, true, true, true, true, true, true, true, true, true, true, true, false, false, false, false, false, false, false, false, false, false, false, false, false, false, false, false, false] (by kernel_rfl) (by kernel_rfl) ?_
              refine ED.keep [1, 2, 7, 8, 10, 11, 12, 13, 61, 62, 63, 64, 65, 66, 67, 69] [(1, .int .i64 a9), (2, .int .i64 a10), (7, .slice a7 a2.length a6), (8, .pointer (some ⟨a4, 0, none⟩)), (10, .int .i64 (IntKind.i64.wrap (b0 + (a1.length : Int)))), (11, .int .i64 a8), (12, .slice (some a3) a1.length a5), (13, .int .i64 a0), (61, .slice (some a3) a1.length a5), (62, .int .i64 a0), (63, .pointer (some ((a3.add (a0.toNat * 6)).add 0))), (64, .pointer (some ((a3.add (a0.toNat * 6)).add 0))), (65, .int .i64 ((a1.getD a0.toNat zS69).f0)), (66, .int .i64 a0), (67, .bool (!(decide (((a1.getD a0.toNat zS69).f0) = a0)))), (69, .bool (!(decide (((a1.getD a0.toNat zS69).f0) = a0))))] (by kernel_rfl) ?_
              refine ED.as' [(1, .int .i64 a9), (2, .int .i64 a10), (7, .slice a7 a2.length a6), (8, .pointer (some ⟨a4, 0, none⟩)), (10, .int .i64 (IntKind.i64.wrap (b0 + (a1.length : Int)))), (11, .int .i64 a8), (12, .slice (some a3) a1.length a5), (13, .int .i64 a0), (61, .slice (some a3) a1.length a5), (62, .int .i64 a0), (63, .pointer (some ((a3.add (a0.toNat * 6)).add 0))), (64, .pointer (some ((a3.add (a0.toNat * 6)).add 0))), (65, .int .i64 ((a1.getD a0.toNat zS69).f0)), (66, .int .i64 a0), (67, .bool (false)), (69, .bool (false))] (by simp only [dec_t f6, Bool.not_true, Bool.not_false]) ?_
              refine ED.quick hN hF hC [17, 18, 19] [1, 2, 7, 8, 10, 11, 12, 13, 61, 62, 63, 64, 65, 66, 67, 69, 70, 71, 72] 14 [(1, .int .i64 a9), (2, .int .i64 a10), (7, .slice a7 a2.length a6), (8, .pointer (some ⟨a4, 0, none⟩)), (10, .int .i64 (IntKind.i64.wrap (b0 + (a1.length : Int)))), (11, .int .i64 a8), (12, .slice (some a3) a1.length a5), (13, .int .i64 a0), (61, .slice (some a3) a1.length a5), (62, .int .i64 a0), (63, .pointer (some ((a3.add (a0.toNat * 6)).add 0))), (64, .pointer (some ((a3.add (a0.toNat * 6)).add 0))), (65, .int .i64 ((a1.getD a0.toNat zS69).f0)), (66, .int .i64 a0), (67, .bool (false)), (69, .bool (false)), (70, .int .i64 a0), (71, .bool (decide (a0 > 0))), (72, .bool (decide (a0 > 0)))] #[true, true, true, true, true, true, true, true, true, true, true, true, true, true, true, true, true, true, true, true, false, false, false, false, false, false, false, false, false, false, false, false, false, false] (by kernel_rfl) (by kernel_rfl) ?_
              refine ED.keep [1, 2, 7, 8, 10, 11, 12, 13, 61, 62, 63, 64, 65, 66, 67, 69, 70, 71, 72] [(1, .int .i64 a9), (2, .int .i64 a10), (7, .slice a7 a2.length a6), (8, .pointer (some ⟨a4, 0, none⟩)), (10, .int .i64 (IntKind.i64.wrap (b0 + (a1.length : Int)))), (11, .int .i64 a8), (12, .slice (some a3) a1.length a5), (13, .int .i64 a0), (61, .slice (some a3) a1.length a5), (62, .int .i64 a0), (63, .pointer (some ((a3.add (a0.toNat * 6)).add 0))), (64, .pointer (some ((a3.add (a0.toNat * 6)).add 0))), (65, .int .i64 ((a1.getD a0.toNat zS69).f0)), (66, .int .i64 a0), (67, .bool (false)), (69, .bool (false)), (70, .int .i64 a0), (71, .bool (decide (a0 > 0))), (72, .bool (decide (a0 > 0)))] (by kernel_rfl) ?_
              refine ED.as' [(1, .int .i64 a9), (2, .int .i64 a10), (7, .slice a7 a2.length a6), (8, .pointer (some ⟨a4, 0, none⟩)), (10, .int .i64 (IntKind.i64.wrap (b0 + (a1.length : Int)))), (11, .int .i64 a8), (12, .slice (some a3) a1.length a5), (13, .int .i64 a0), (61, .slice (some a3) a1.length a5), (62, .int .i64 a0), (63, .pointer (some ((a3.add (a0.toNat * 6)).add 0))), (64, .pointer (some ((a3.add (a0.toNat * 6)).add 0))), (65, .int .i64 ((a1.getD a0.toNat zS69).f0)), (66, .int .i64 a0), (67, .bool (false)), (69, .bool (false)), (70, .int .i64 a0), (71, .bool (true)), (72, .bool (true))] (by simp only [dec_t f9, Bool.not_true, Bool.not_false]) ?_
              refine ED.quick hN hF hC [20, 21, 25, 26, 27] [1, 2, 7, 8, 10, 11, 12, 13, 61, 62, 63, 64, 65, 66, 67, 69, 70, 71, 72, 73, 74, 78, 79, 80] 9 [(1, .int .i64 a9), (2, .int .i64 a10), (7, .slice a7 a2.length a6), (8, .pointer (some ⟨a4, 0, none⟩)), (10, .int .i64 (IntKind.i64.wrap (b0 + (a1.length : Int)))), (11, .int .i64 a8), (12, .slice (some a3) a1.length a5), (13, .int .i64 a0), (61, .slice (some a3) a1.length a5), (62, .int .i64 a0), (63, .pointer (some ((a3.add (a0.toNat * 6)).add 0))), (64, .pointer (some ((a3.add (a0.toNat * 6)).add 0))), (65, .int .i64 ((a1.getD a0.toNat zS69).f0)), (66, .int .i64 a0), (67, .bool (false)), (69, .bool (false)), (70, .int .i64 a0), (71, .bool (true)), (72, .bool (true)), (73, .slice (some a3) a1.length a5), (74, .int .i64 a0), (78, .slice (some a3) a1.length a5), (79, .int .i64 a0), (80, .int .i64 (IntKind.i64.wrap (a0 - 1)))] #[true, true, true, true, true, true, true, true, true, true, true, true, true, true, true, true, true, true, true, true, true, true, false, false, false, true, true, true, false, false, false, false, false, false] (by kernel_rfl) (by kernel_rfl) ?_
              refine ED.Y hN hF hC 22 8 #[true, true, true, true, true, true, true, true, true, true, true, true, true, true, true, true, true, true, true, true, true, true, true, false, false, true, true, true, false, false, false, false, false, false] (by kernel_rfl) (by kernel_rfl) rfl (fun _ _ _ hS => YO.idx 64 6 a3 a1.length a5 .i64 a0 75 (by kernel_rfl) (by kernel_rfl) (by kernel_rfl) (by kernel_rfl) b9 b8) ?_
              refine ED.quick hN hF hC [23] [1, 2, 7, 8, 10, 11, 12, 13, 61, 62, 63, 64, 65, 66, 67, 69, 70, 71, 72, 73, 74, 75, 76, 78, 79, 80] 7 [(1, .int .i64 a9), (2, .int .i64 a10), (7, .slice a7 a2.length a6), (8, .pointer (some ⟨a4, 0, none⟩)), (10, .int .i64 (IntKind.i64.wrap (b0 + (a1.length : Int)))), (11, .int .i64 a8), (12, .slice (some a3) a1.length a5), (13, .int .i64 a0), (61, .slice (some a3) a1.length a5), (62, .int .i64 a0), (63, .pointer (some ((a3.add (a0.toNat * 6)).add 0))), (64, .pointer (some ((a3.add (a0.toNat * 6)).add 0))), (65, .int .i64 ((a1.getD a0.toNat zS69).f0)), (66, .int .i64 a0), (67, .bool (false)), (69, .bool (false)), (70, .int .i64 a0), (71, .bool (true)), (72, .bool (true)), (73, .slice (some a3) a1.length a5), (74, .int .i64 a0), (75, .pointer (some ((a3.add (a0.toNat * 6)).add 0))), (76, .pointer (some ((a3.add (a0.toNat * 6)).add 4))), (78, .slice (some a3) a1.length a5), (79, .int .i64 a0), (80, .int .i64 (IntKind.i64.wrap (a0 - 1)))] #[true, true, true, true, true, true, true, true, true, true, true, true, true, true, true, true, true, true, true, true, true, true, true, true, false, true, true, true, false, false, false, false, false, false] (by kernel_rfl) (by kernel_rfl) ?_
              refine ED.Y hN hF hC 24 6 #[true, true, true, true, true, true, true, true, true, true, true, true, true, true, true, true, true, true, true, true, true, true, true, true, true, true, true, true, false, false, false, false, false, false] (by kernel_rfl) (by kernel_rfl) rfl (fun _ _ _ hS => YO.loadEl hS kS69 a3 a5 a1 (Rd.own 2 69 rfl) zS69 encS69 encS69_of a0 b9 b8 3 6 4 1 rfl (.int .i64 ((a1.getD a0.toNat zS69).f4)) 77 (by kernel_rfl) (by kernel_rfl) (by kernel_rfl) (by kernel_rfl)) ?_
              refine ED.Y hN hF hC 28 5 #[true, true, true, true, true, true, true, true, true, true, true, true, true, true, true, true, true, true, true, true, true, true, true, true, true, true, true, true, true, false, false, false, false, false] (by kernel_rfl) (by kernel_rfl) rfl (fun _ _ _ hS => YO.idx 64 6 a3 a1.length a5 .i64 (IntKind.i64.wrap (a0 - 1)) 81 (by kernel_rfl) (by kernel_rfl) (by kernel_rfl) (by kernel_rfl) i9 j0) ?_
              refine ED.quick hN hF hC [29] [1, 2, 7, 8, 10, 11, 12, 13, 61, 62, 63, 64, 65, 66, 67, 69, 70, 71, 72, 73, 74, 75, 76, 77, 78, 79, 80, 81, 82] 4 [(1, .int .i64 a9), (2, .int .i64 a10), (7, .slice a7 a2.length a6), (8, .pointer (some ⟨a4, 0, none⟩)), (10, .int .i64 (IntKind.i64.wrap (b0 + (a1.length : Int)))), (11, .int .i64 a8), (12, .slice (some a3) a1.length a5), (13, .int .i64 a0), (61, .slice (some a3) a1.length a5), (62, .int .i64 a0), (63, .pointer (some ((a3.add (a0.toNat * 6)).add 0))), (64, .pointer (some ((a3.add (a0.toNat * 6)).add 0))), (65, .int .i64 ((a1.getD a0.toNat zS69).f0)), (66, .int .i64 a0), (67, .bool (false)), (69, .bool (false)), (70, .int .i64 a0), (71, .bool (true)), (72, .bool (true)), (73, .slice (some a3) a1.length a5), (74, .int .i64 a0), (75, .pointer (some ((a3.add (a0.toNat * 6)).add 0))), (76, .pointer (some ((a3.add (a0.toNat * 6)).add 4))), (77, .int .i64 ((a1.getD a0.toNat zS69).f4)), (78, .slice (some a3) a1.length a5), (79, .int .i64 a0), (80, .int .i64 (IntKind.i64.wrap (a0 - 1))), (81, .pointer (some ((a3.add ((IntKind.i64.wrap (a0 - 1)).toNat * 6)).add 0))), (82, .pointer (some ((a3.add ((IntKind.i64.wrap (a0 - 1)).toNat * 6)).add 4)))] #[true, true, true, true, true, true, true, true, true, true, true, true, true, true, true, true, true, true, true, true, true, true, true, true, true, true, true, true, true, true, false, false, false, false] (by kernel_rfl) (by kernel_rfl) ?_
              refine ED.Y hN hF hC 30 3 #[true, true, true, true, true, true, true, true, true, true, true, true, true, true, true, true, true, true, true, true, true, true, true, true, true, true, true, true, true, true, true, false, false, false] (by kernel_rfl) (by kernel_rfl) rfl (fun _ _ _ hS => YO.loadEl hS kS69 a3 a5 a1 (Rd.own 2 69 rfl) zS69 encS69 encS69_of (IntKind.i64.wrap (a0 - 1)) i9 j0 3 6 4 1 rfl (.int .i64 ((a1.getD (IntKind.i64.wrap (a0 - 1)).toNat zS69).f4)) 83 (by kernel_rfl) (by kernel_rfl) (by kernel_rfl) (by kernel_rfl)) ?_
              refine ED.quick hN hF hC [31, 32, 33] [1, 2, 7, 8, 10, 11, 12, 13, 61, 62, 63, 64, 65, 66, 67, 70, 71, 72, 73, 74, 75, 76, 77, 78, 79, 80, 81, 82, 83, 84, 85, 86] 0 [(1, .int .i64 a9), (2, .int .i64 a10), (7, .slice a7 a2.length a6), (8, .pointer (some ⟨a4, 0, none⟩)), (10, .int .i64 (IntKind.i64.wrap (b0 + (a1.length : Int)))), (11, .int .i64 a8), (12, .slice (some a3) a1.length a5), (13, .int .i64 a0), (61, .slice (some a3) a1.length a5), (62, .int .i64 a0), (63, .pointer (some ((a3.add (a0.toNat * 6)).add 0))), (64, .pointer (some ((a3.add (a0.toNat * 6)).add 0))), (65, .int .i64 ((a1.getD a0.toNat zS69).f0)), (66, .int .i64 a0), (67, .bool (false)), (70, .int .i64 a0), (71, .bool (true)), (72, .bool (true)), (73, .slice (some a3) a1.length a5), (74, .int .i64 a0), (75, .pointer (some ((a3.add (a0.toNat * 6)).add 0))), (76, .pointer (some ((a3.add (a0.toNat * 6)).add 4))), (77, .int .i64 ((a1.getD a0.toNat zS69).f4)), (78, .slice (some a3) a1.length a5), (79, .int .i64 a0), (80, .int .i64 (IntKind.i64.wrap (a0 - 1))), (81, .pointer (some ((a3.add ((IntKind.i64.wrap (a0 - 1)).toNat * 6)).add 0))), (82, .pointer (some ((a3.add ((IntKind.i64.wrap (a0 - 1)).toNat * 6)).add 4))), (83, .int .i64 ((a1.getD (IntKind.i64.wrap (a0 - 1)).toNat zS69).f4)), (84, .bool (decide (((a1.getD a0.toNat zS69).f4) < ((a1.getD (IntKind.i64.wrap (a0 - 1)).toNat zS69).f4)))), (85, .bool (decide (((a1.getD a0.toNat zS69).f4) < ((a1.getD (IntKind.i64.wrap (a0 - 1)).toNat zS69).f4)))), (86, .bool (decide (((a1.getD a0.toNat zS69).f4) < ((a1.getD (IntKind.i64.wrap (a0 - 1)).toNat zS69).f4))))] #[true, true, true, true, true, true, true, true, true, true, true, true, true, true, true, true, true, true, true, true, true, true, true, true, true, true, true, true, true, true, true, true, true, true] (by kernel_rfl) (by kernel_rfl) ?_
              refine ED.done (by kernel_rfl) ?_
              refine EQ.to ?_
              refine EQ.keep [1, 2, 7, 8, 10, 11, 12, 13, 86] [(1, .int .i64 a9), (2, .int .i64 a10), (7, .slice a7 a2.length a6), (8, .pointer (some ⟨a4, 0, none⟩)), (10, .int .i64 (IntKind.i64.wrap (b0 + (a1.length : Int)))), (11, .int .i64 a8), (12, .slice (some a3) a1.length a5), (13, .int .i64 a0), (86, .bool (decide (((a1.getD a0.toNat zS69).f4) < ((a1.getD (IntKind.i64.wrap (a0 - 1)).toNat zS69).f4))))] (by kernel_rfl) ?_
              exact fun a ha => ⟨decide (((a1.getD a0.toNat zS69).f4) < ((a1.getD (IntKind.i64.wrap (a0 - 1)).toNat zS69).f4)), ha, (hS.re [3, 3, 3, 3] [] rfl (sub_cons 0 rfl (sub_cons 0 rfl (sub_cons 2 rfl (sub_cons 2 rfl (sub_tail (sub_tail (sub_tail (sub_tail (sub_self)))))))))), H⟩
             ·rw [if_neg f9] at H
              have hS := hS.drew
              refine EW.draw (B := B) (id := 20) (ops := Cd9.r.r.r.r.r.r.r.l.r.l.l.r.l.l.r.r.r.l.l.r.l.l.l.ops) [Ass.box 113 a4 [.slice b4 b3.length b5], Ass.own 69 kS69 b4 b5 b3, Ass.own 69 kS69 (some a3) a5 a1, Ass.own 69 kS69 a7 a6 a2] [Ro.sl (Kd.int .i64) (some ⟨b7, 0, none⟩) 1 b6, Ro.sl (Kd.int .i64) (some ⟨b7, 0, none⟩) 1 b6, Ro.sl kS111 A7 C8 l6, Ro.sl kS111 A7 C8 l6] (by kernel_rfl) (by kernel_rfl) ?_
              have hN : Region.noSelect Cd9.r.r.r.r.r.r.r.l.r.l.l.r.l.l.r.r.r.l.l.r.l.l.l.ops = true := (by kernel_rfl)
              have hF : freeAll Cd9.r.r.r.r.r.r.r.l.r.l.l.r.l.l.r.r.r.l.l.r.l.l.l.ops = true := (by kernel_rfl)
              have hC : Core B [Ass.box 113 a4 [.slice b4 b3.length b5], Ass.own 69 kS69 b4 b5 b3, Ass.own 69 kS69 (some a3) a5 a1, Ass.own 69 kS69 a7 a6 a2] [Ro.sl (Kd.int .i64) (some ⟨b7, 0, none⟩) 1 b6, Ro.sl (Kd.int .i64) (some ⟨b7, 0, none⟩) 1 b6, Ro.sl kS111 A7 C8 l6, Ro.sl kS111 A7 C8 l6] _ := ⟨_, _, hS⟩
              refine ED.quick hN hF hC [0, 1, 5] [1, 2, 7, 8, 10, 11, 12, 13, 53, 54, 58] 31 [(1, .int .i64 a9), (2, .int .i64 a10), (7, .slice a7 a2.length a6), (8, .pointer (some ⟨a4, 0, none⟩)), (10, .int .i64 (IntKind.i64.wrap (b0 + (a1.length : Int)))), (11, .int .i64 a8), (12, .slice (some a3) a1.length a5), (13, .int .i64 a0), (53, .slice (some a3) a1.length a5), (54, .int .i64 a0), (58, .int .i64 a8)] #[true, true, false, false, false, true, false, false, false, false, false, false, false, false, false, false, false, false, false, false, false, false, false, false, false, false, false, false, false, false, false, false, false, false] (by kernel_rfl) (by kernel_rfl) ?_
              refine ED.Y hN hF hC 2 30 #[true, true, true, false, false, true, false, false, false, false, false, false, false, false, false, false, false, false, false, false, false, false, false, false, false, false, false, false, false, false, false, false, false, false] (by kernel_rfl) (by kernel_rfl) rfl (fun _ _ _ hS => YO.idx 64 6 a3 a1.length a5 .i64 a0 55 (by kernel_rfl) (by kernel_rfl) (by kernel_rfl) (by kernel_rfl) b9 b8) ?_
              refine ED.quick hN hF hC [3] [1, 2, 7, 8, 10, 11, 12, 13, 56, 58] 29 [(1, .int .i64 a9), (2, .int .i64 a10), (7, .slice a7 a2.length a6), (8, .pointer (some ⟨a4, 0, none⟩)), (10, .int .i64 (IntKind.i64.wrap (b0 + (a1.length : Int)))), (11, .int .i64 a8), (12, .slice (some a3) a1.length a5), (13, .int .i64 a0), (56, .pointer (some ((a3.add (a0.toNat * 6)).add 2))), (58, .int .i64 a8)] #[true, true, true, true, false, true, false, false, false, false, false, false, false, false, false, false, false, false, false, false, false, false, false, false, false, false, false, false, false, false, false, false, false, false] (by kernel_rfl) (by kernel_rfl) ?_
              refine ED.Y hN hF hC 4 28 #[true, true, true, true, true, true, false, false, false, false, false, false, false, false, false, false, false, false, false, false, false, false, false, false, false, false, false, false, false, false, false, false, false, false] (by kernel_rfl) (by kernel_rfl) rfl (fun _ _ _ hS => YO.loadEl hS kS69 a3 a5 a1 (Rd.own 2 69 rfl) zS69 encS69 encS69_of a0 b9 b8 3 6 2 1 rfl (.int .i64 ((a1.getD a0.toNat zS69).f2)) 57 (by kernel_rfl) (by kernel_rfl) (by kernel_rfl) (by kernel_rfl)) ?_
              refine ED.quick hN hF hC [6, 7] [1, 2, 7, 8, 10, 11, 12, 13, 60] 26 [(1, .int .i64 a9), (2, .int .i64 a10), (7, .slice a7 a2.length a6), (8, .pointer (some ⟨a4, 0, none⟩)), (10, .int .i64 (IntKind.i64.wrap (b0 + (a1.length : Int)))), (11, .int .i64 a8), (12, .slice (some a3) a1.length a5), (13, .int .i64 a0), (60, .bool (!(decide (((a1.getD a0.toNat zS69).f2) = a8))))] #[true, true, true, true, true, true, true, true, false, false, false, false, false, false, false, false, false, false, false, false, false, false, false, false, false, false, false, false, false, false, false, false, false, false] (by kernel_rfl) (by kernel_rfl) ?_
              refine ED.keep [1, 2, 7, 8, 10, 11, 12, 13, 60] [(1, .int .i64 a9), (2, .int .i64 a10), (7, .slice a7 a2.length a6), (8, .pointer (some ⟨a4, 0, none⟩)), (10, .int .i64 (IntKind.i64.wrap (b0 + (a1.length : Int)))), (11, .int .i64 a8), (12, .slice (some a3) a1.length a5), (13, .int .i64 a0), (60, .bool (!(decide (((a1.getD a0.toNat zS69).f2) = a8))))] (by kernel_rfl) ?_
              refine ED.as' [(1, .int .i64 a9), (2, .int .i64 a10), (7, .slice a7 a2.length a6), (8, .pointer (some ⟨a4, 0, none⟩)), (10, .int .i64 (IntKind.i64.wrap (b0 + (a1.length : Int)))), (11, .int .i64 a8), (12, .slice (some a3) a1.length a5), (13, .int .i64 a0), (60, .bool (false))] (by simp only [dec_t e1, Bool.not_true, Bool.not_false]) ?_
              refine ED.quick hN hF hC [8, 9, 13] [1, 2, 7, 8, 10, 11, 12, 13, 60, 61, 62, 66] 23 [(1, .int .i64 a9), (2, .int .i64 a10), (7, .slice a7 a2.length a6), (8, .pointer (some ⟨a4, 0, none⟩)), (10, .int .i64 (IntKind.i64.wrap (b0 + (a1.length : Int)))), (11, .int .i64 a8), (12, .slice (some a3) a1.length a5), (13, .int .i64 a0), (60, .bool (false)), (61, .slice (some a3) a1.length a5), (62, .int .i64 a0), (66, .int .i64 a0)] #[true, true, true, true, true, true, true, true, true, true, false, false, false, true, false, false, false, false, false, false, false, false, false, false, false, false, false, false, false, false, false, false, false, false] (by kernel_rfl) (by kernel_rfl) ?_
              refine ED.Y hN hF hC 10 22 #[true, true, true, true, true, true, true, true, true, true, true, false, false, true, false, false, false, false, false, false, false, false, false, false, false, false, false, false, false, false, false, false, false, false] (by kernel_rfl) (by kernel_rfl) rfl (fun _ _ _ hS => YO.idx 64 6 a3 a1.length a5 .i64 a0 63 (by kernel_rfl) (by kernel_rfl) (by kernel_rfl) (by kernel_rfl) b9 b8) ?_
              refine ED.quick hN hF hC [11] [1, 2, 7, 8, 10, 11, 12, 13, 60, 61, 62, 63, 64, 66] 21 [(1, .int .i64 a9), (2, .int .i64 a10), (7, .slice a7 a2.length a6), (8, .pointer (some ⟨a4, 0, none⟩)), (10, .int .i64 (IntKind.i64.wrap (b0 + (a1.length : Int)))), (11, .int .i64 a8), (12, .slice (some a3) a1.length a5), (13, .int .i64 a0), (60, .bool (false)), (61, .slice (some a3) a1.length a5), (62, .int .i64 a0), (63, .pointer (some ((a3.add (a0.toNat * 6)).add 0))), (64, .pointer (some ((a3.add (a0.toNat * 6)).add 0))), (66, .int .i64 a0)] #[true, true, true, true, true, true, true, true, true, true, true, true, false, true, false, false, false, false, false, false, false, false, false, false, false, false, false, false, false, false, false, false, false, false] (by kernel_rfl) (by kernel_rfl) ?_
              refine ED.Y hN hF hC 12 20 #[true, true, true, true, true, true, true, true, true, true, true, true, true, true, false, false, false, false, false, false, false, false, false, false, false, false, false, false, false, false, false, false, false, false] (by kernel_rfl) (by kernel_rfl) rfl (fun _ _ _ hS => YO.loadEl hS kS69 a3 a5 a1 (Rd.own 2 69 rfl) zS69 encS69 encS69_of a0 b9 b8 3 6 0 1 rfl (.int .i64 ((a1.getD a0.toNat zS69).f0)) 65 (by kernel_rfl) (by kernel_rfl) (by kernel_rfl) (by kernel_rfl)) ?_
              refine ED.quick hN hF hC [14, 15, 16] [1, 2, 7, 8, 10, 11, 12, 13, 61, 62, 63, 64, 65, 66, 67, 69] 17 [(1, .int .i64 a9), (2, .int .i64 a10), (7, .slice a7 a2.length a6), (8, .pointer (some ⟨a4, 0, none⟩)), (10, .int .i64 (IntKind.i64.wrap (b0 + (a1.length : Int)))), (11, .int .i64 a8), (12, .slice (some a3) a1.length a5), (13, .int .i64 a0), (61, .slice (some a3) a1.length a5), (62, .int .i64 a0), (63, .pointer (some ((a3.add (a0.toNat * 6)).add 0))), (64, .pointer (some ((a3.add (a0.toNat * 6)).add 0))), (65, .int .i64 ((a1.getD a0.toNat zS69).f0)), (66, .int .i64 a0), (67, .bool (!(decide (((a1.getD a0.toNat zS69).f0) = a0)))), (69, .bool (!(decide (((a1.getD a0.toNat zS69).f0) = a0))))] #[true, true, true, true, true, true, true, true, true, true, true, true, true, true, true, true, true, false, false, false, false, false, false, false, false, false, false, false, false, false, false, false, false, false] (by kernel_rfl) (by kernel_rfl) ?_
              refine ED.keep [1, 2, 7, 8, 10, 11, 12, 13, 61, 62, 63, 64, 65, 66, 67, 69] [(1, .int .i64 a9), (2, .int .i64 a10), (7, .slice a7 a2.length a6), (8, .pointer (some ⟨a4, 0, none⟩)), (10, .int .i64 (IntKind.i64.wrap (b0 + (a1.length : Int)))), (11, .int .i64 a8), (12, .slice (some a3) a1.length a5), (13, .int .i64 a0), (61, .slice (some a3) a1.length a5), (62, .int .i64 a0), (63, .pointer (some ((a3.add (a0.toNat * 6)).add 0))), (64, .pointer (some ((a3.add (a0.toNat * 6)).add 0))), (65, .int .i64 ((a1.getD a0.toNat zS69).f0)), (66, .int .i64 a0), (67, .bool (!(decide (((a1.getD a0.toNat zS69).f0) = a0)))), (69, .bool (!(decide (((a1.getD a0.toNat zS69).f0) = a0))))] (by kernel_rfl) ?_
              refine ED.as' [(1, .int .i64 a9), (2, .int .i64 a10), (7, .slice a7 a2.length a6), (8, .pointer (some ⟨a4, 0, none⟩)), (10, .int .i64 (IntKind.i64.wrap (b0 + (a1.length : Int)))), (11, .int .i64 a8), (12, .slice (some a3) a1.length a5), (13, .int .i64 a0), (61, .slice (some a3) a1.length a5), (62, .int .i64 a0), (63, .pointer (some ((a3.add (a0.toNat * 6)).add 0))), (64, .pointer (some ((a3.add (a0.toNat * 6)).add 0))), (65, .int .i64 ((a1.getD a0.toNat zS69).f0)), (66, .int .i64 a0), (67, .bool (false)), (69, .bool (false))] (by simp only [dec_t f6, Bool.not_true, Bool.not_false]) ?_
              refine ED.quick hN hF hC [17, 18, 19] [1, 2, 7, 8, 10, 11, 12, 13, 61, 62, 63, 64, 65, 66, 67, 69, 70, 71, 72] 14 [(1, .int .i64 a9), (2, .int .i64 a10), (7, .slice a7 a2.length a6), (8, .pointer (some ⟨a4, 0, none⟩)), (10, .int .i64 (IntKind.i64.wrap (b0 + (a1.length : Int)))), (11, .int .i64 a8), (12, .slice (some a3) a1.length a5), (13, .int .i64 a0), (61, .slice (some a3) a1.length a5), (62, .int .i64 a0), (63, .pointer (some ((a3.add (a0.toNat * 6)).add 0))), (64, .pointer (some ((a3.add (a0.toNat * 6)).add 0))), (65, .int .i64 ((a1.getD a0.toNat zS69).f0)), (66, .int .i64 a0), (67, .bool (false)), (69, .bool (false)), (70, .int .i64 a0), (71, .bool (decide (a0 > 0))), (72, .bool (decide (a0 > 0)))] #[true, true, true, true, true, true, true, true, true, true, true, true, true, true, true, true, true, true, true, true, false, false, false, false, false, false, false, false, false, false, false, false, false, false] (by kernel_rfl) (by kernel_rfl) ?_
              refine ED.keep [1, 2, 7, 8, 10, 11, 12, 13, 61, 62, 63, 64, 65, 66, 67, 69, 70, 71, 72] [(1, .int .i64 a9), (2, .int .i64 a10), (7, .slice a7 a2.length a6), (8, .pointer (some ⟨a4, 0, none⟩)), (10, .int .i64 (IntKind.i64.wrap (b0 + (a1.length : Int)))), (11, .int .i64 a8), (12, .slice (some a3) a1.length a5), (13, .int .i64 a0), (61, .slice (some a3) a1.length a5), (62, .int .i64 a0), (63, .pointer (some ((a3.add (a0.toNat * 6)).add 0))), (64, .pointer (some ((a3.add (a0.toNat * 6)).add 0))), (65, .int .i64 ((a1.getD a0.toNat zS69).f0)), (66, .int .i64 a0), (67, .bool (false)), (69, .bool (false)), (70, .int .i64 a0), (71, .bool (decide (a0 > 0))), (72, .bool (decide (a0 > 0)))] (by kernel_rfl) ?_
              refine ED.as' [(1, .int .i64 a9), (2, .int .i64 a10), (7, .slice a7 a2.length a6), (8, .pointer (some ⟨a4, 0, none⟩)), (10, .int .i64 (IntKind.i64.wrap (b0 + (a1.length : Int)))), (11, .int .i64 a8), (12, .slice (some a3) a1.length a5), (13, .int .i64 a0), (61, .slice (some a3) a1.length a5), (62, .int .i64 a0), (63, .pointer (some ((a3.add (a0.toNat * 6)).add 0))), (64, .pointer (some ((a3.add (a0.toNat * 6)).add 0))), (65, .int .i64 ((a1.getD a0.toNat zS69).f0)), (66, .int .i64 a0), (67, .bool (false)), (69, .bool (false)), (70, .int .i64 a0), (71, .bool (false)), (72, .bool (false))] (by simp only [dec_f f9, Bool.not_true, Bool.not_false]) ?_
              refine ED.quick hN hF hC [20, 21, 22, 23, 24, 25, 26, 27, 28, 29, 30, 31, 32, 33] [1, 2, 7, 8, 10, 11, 12, 13, 61, 62, 63, 64, 65, 66, 67, 70, 71, 72, 73, 74, 75, 76, 77, 78, 79, 80, 81, 82, 83, 84, 85, 86] 0 [(1, .int .i64 a9), (2, .int .i64 a10), (7, .slice a7 a2.length a6), (8, .pointer (some ⟨a4, 0, none⟩)), (10, .int .i64 (IntKind.i64.wrap (b0 + (a1.length : Int)))), (11, .int .i64 a8), (12, .slice (some a3) a1.length a5), (13, .int .i64 a0), (61, .slice (some a3) a1.length a5), (62, .int .i64 a0), (63, .pointer (some ((a3.add (a0.toNat * 6)).add 0))), (64, .pointer (some ((a3.add (a0.toNat * 6)).add 0))), (65, .int .i64 ((a1.getD a0.toNat zS69).f0)), (66, .int .i64 a0), (67, .bool (false)), (70, .int .i64 a0), (71, .bool (false)), (72, .bool (false)), (73, undef), (74, undef), (75, undef), (76, undef), (77, undef), (78, undef), (79, undef), (80, undef), (81, undef), (82, undef), (83, undef), (84, undef), (85, .bool (false)), (86, .bool (false))] #[true, true, true, true, true, true, true, true, true, true, true, true, true, true, true, true, true, true, true, true, true, true, true, true, true, true, true, true, true, true, true, true, true, true] (by kernel_rfl) (by kernel_rfl) ?_
              refine ED.done (by kernel_rfl) ?_
              refine EQ.to ?_
              refine EQ.keep [1, 2, 7, 8, 10, 11, 12, 13, 86] [(1, .int .i64 a9), (2, .int .i64 a10), (7, .slice a7 a2.length a6), (8, .pointer (some ⟨a4, 0, none⟩)), (10, .int .i64 (IntKind.i64.wrap (b0 + (a1.length : Int)))), (11, .int .i64 a8), (12, .slice (some a3) a1.length a5), (13, .int .i64 a0), (86, .bool (false))] (by kernel_rfl) ?_
              exact fun a ha => ⟨false, ha, (hS.re [3, 3, 3, 3] [] rfl (sub_cons 0 rfl (sub_cons 0 rfl (sub_cons 2 rfl (sub_cons 2 rfl (sub_tail (sub_tail (sub_tail (sub_tail (sub_self)))))))))), H⟩
            ·rw [if_neg f6] at H
             have hS := hS.drew
             refine EW.draw (B := B) (id := 20) (ops := Cd9.r.r.r.r.r.r.r.l.r.l.l.r.l.l.r.r.r.l.l.r.l.l.l.ops) [Ass.box 113 a4 [.slice b4 b3.length b5], Ass.own 69 kS69 b4 b5 b3, Ass.own 69 kS69 (some a3) a5 a1, Ass.own 69 kS69 a7 a6 a2] [Ro.sl (Kd.int .i64) (some ⟨b7, 0, none⟩) 1 b6, Ro.sl (Kd.int .i64) (some ⟨b7, 0, none⟩) 1 b6, Ro.sl kS111 A7 C8 l6, Ro.sl kS111 A7 C8 l6] (by kernel_rfl) (by kernel_rfl) ?_
             have hN : Region.noSelect Cd9.r.r.r.r.r.r.r.l.r.l.l.r.l.l.r.r.r.l.l.r.l.l.l.ops = true := (by kernel_rfl)
             have hF : freeAll Cd9.r.r.r.r.r.r.r.l.r.l.l.r.l.l.r.r.r.l.l.r.l.l.l.ops = true := (by kernel_rfl)
             have hC : Core B [Ass.box 113 a4 [.slice b4 b3.length b5], Ass.own 69 kS69 b4 b5 b3, Ass.own 69 kS69 (some a3) a5 a1, Ass.own 69 kS69 a7 a6 a2] [Ro.sl (Kd.int .i64) (some ⟨b7, 0, none⟩) 1 b6, Ro.sl (Kd.int .i64) (some ⟨b7, 0, none⟩) 1 b6, Ro.sl kS111 A7 C8 l6, Ro.sl kS111 A7 C8 l6] _ := ⟨_, _, hS⟩
             refine ED.quick hN hF hC [0, 1, 5] [1, 2, 7, 8, 10, 11, 12, 13, 53, 54, 58] 31 [(1, .int .i64 a9), (2, .int .i64 a10), (7, .slice a7 a2.length a6), (8, .pointer (some ⟨a4, 0, none⟩)), (10, .int .i64 (IntKind.i64.wrap (b0 + (a1.length : Int)))), (11, .int .i64 a8), (12, .slice (some a3) a1.length a5), (13, .int .i64 a0), (53, .slice (some a3) a1.length a5), (54, .int .i64 a0), (58, .int .i64 a8)] #[true, true, false, false, false, true, false, false, false, false, false, false, false, false, false, false, false, false, false, false, false, false, false, false, false, false, false, false, false, false, false, false, false, false] (by kernel_rfl) (by kernel_rfl) ?_
             refine ED.Y hN hF hC 2 30 #[true, true, true, false, false, true, false, false, false, false, false, false, false, false, false, false, false, false, false, false, false, false, false, false, false, false, false, false, false, false, false, false, false, false] (by kernel_rfl) (by kernel_rfl) rfl (fun _ _ _ hS => YO.idx 64 6 a3 a1.length a5 .i64 a0 55 (by kernel_rfl) (by kernel_rfl) (by kernel_rfl) (by kernel_rfl) b9 b8) ?_
             refine ED.quick hN hF hC [3] [1, 2, 7, 8, 10, 11, 12, 13, 56, 58] 29 [(1, .int .i64 a9), (2, .int .i64 a10), (7, .slice a7 a2.length a6), (8, .pointer (some ⟨a4, 0, none⟩)), (10, .int .i64 (IntKind.i64.wrap (b0 + (a1.length : Int)))), (11, .int .i64 a8), (12, .slice (some a3) a1.length a5), (13, .int .i64 a0), (56, .pointer (some ((a3.add (a0.toNat * 6)).add 2))), (58, .int .i64 a8)] #[true, true, true, true, false, true, false, false, false, false, false, false, false, false, false, false, false, false, false, false, false, false, false, false, false, false, false, false, false, false, false, false, false, false] (by kernel_rfl) (by kernel_rfl) ?_
             refine ED.Y hN hF hC 4 28 #[true, true, true, true, true, true, false, false, false, false, false, false, false, false, false, false, false, false, false, false, false, false, false, false, false, false, false, false, false, false, false, false, false, false] (by kernel_rfl) (by kernel_rfl) rfl (fun _ _ _ hS => YO.loadEl hS kS69 a3 a5 a1 (Rd.own 2 69 rfl) zS69 encS69 encS69_of a0 b9 b8 3 6 2 1 rfl (.int .i64 ((a1.getD a0.toNat zS69).f2)) 57 (by kernel_rfl) (by kernel_rfl) (by kernel_rfl) (by kernel_rfl)) ?_
             refine ED.quick hN hF hC [6, 7] [1, 2, 7, 8, 10, 11, 12, 13, 60] 26 [(1, .int .i64 a9), (2, .int .i64 a10), (7, .slice a7 a2.length a6), (8, .pointer (some ⟨a4, 0, none⟩)), (10, .int .i64 (IntKind.i64.wrap (b0 + (a1.length : Int)))), (11, .int .i64 a8), (12, .slice (some a3) a1.length a5), (13, .int .i64 a0), (60, .bool (!(decide (((a1.getD a0.toNat zS69).f2) = a8))))] #[true, true, true, true, true, true, true, true, false, false, false, false, false, false, false, false, false, false, false, false, false, false, false, false, false, false, false, false, false, false, false, false, false, false] (by kernel_rfl) (by kernel_rfl) ?_
             refine ED.keep [1, 2, 7, 8, 10, 11, 12, 13, 60] [(1, .int .i64 a9), (2, .int .i64 a10), (7, .slice a7 a2.length a6), (8, .pointer (some ⟨a4, 0, none⟩)), (10, .int .i64 (IntKind.i64.wrap (b0 + (a1.length : Int)))), (11, .int .i64 a8), (12, .slice (some a3) a1.length a5), (13, .int .i64 a0), (60, .bool (!(decide (((a1.getD a0.toNat zS69).f2) = a8))))] (by kernel_rfl) ?_
             refine ED.as' [(1, .int .i64 a9), (2, .int .i64 a10), (7, .slice a7 a2.length a6), (8, .pointer (some ⟨a4, 0, none⟩)), (10, .int .i64 (IntKind.i64.wrap (b0 + (a1.length : Int)))), (11, .int .i64 a8), (12, .slice (some a3) a1.length a5), (13, .int .i64 a0), (60, .bool (false))] (by simp only [dec_t e1, Bool.not_true, Bool.not_false]) ?_
             refine ED.quick hN hF hC [8, 9, 13] [1, 2, 7, 8, 10, 11, 12, 13, 60, 61, 62, 66] 23 [(1, .int .i64 a9), (2, .int .i64 a10), (7, .slice a7 a2.length a6), (8, .pointer (some ⟨a4, 0, none⟩)), (10, .int .i64 (IntKind.i64.wrap (b0 + (a1.length : Int)))), (11, .int .i64 a8), (12, .slice (some a3) a1.length a5), (13, .int .i64 a0), (60, .bool (false)), (61, .slice (some a3) a1.length a5), (62, .int .i64 a0), (66, .int .i64 a0)] #[true, true, true, true, true, true, true, true, true, true, false, false, false, true, false, false, false, false, false, false, false, false, false, false, false, false, false, false, false, false, false, false, false, false] (by kernel_rfl) (by kernel_rfl) ?_
             refine ED.Y hN hF hC 10 22 #[true, true, true, true, true, true, true, true, true, true, true, false, false, true, false, false, false, false, false, false, false, false, false, false, false, false, false, false, false, false, false, false, false, false] (by kernel_rfl) (by kernel_rfl) rfl (fun _ _ _ hS => YO.idx 64 6 a3 a1.length a5 .i64 a0 63 (by kernel_rfl) (by kernel_rfl) (by kernel_rfl) (by kernel_rfl) b9 b8) ?_
             refine ED.quick hN hF hC [11] [1, 2, 7, 8, 10, 11, 12, 13, 60, 61, 62, 63, 64, 66] 21 [(1, .int .i64 a9), (2, .int .i64 a10), (7, .slice a7 a2.length a6), (8, .pointer (some ⟨a4, 0, none⟩)), (10, .int .i64 (IntKind.i64.wrap (b0 + (a1.length : Int)))), (11, .int .i64 a8), (12, .slice (some a3) a1.length a5), (13, .int .i64 a0), (60, .bool (false)), (61, .slice (some a3) a1.length a5), (62, .int .i64 a0), (63, .pointer (some ((a3.add (a0.toNat * 6)).add 0))), (64, .pointer (some ((a3.add (a0.toNat * 6)).add 0))), (66, .int .i64 a0)] #[true, true, true, true, true, true, true, true, true, true, true, true, false, true, false, false, false, false, false, false, false, false, false, false, false, false, false, false, false, false, false, false, false, false] (by kernel_rfl) (by kernel_rfl) ?_
             refine ED.Y hN hF hC 12 20 #[true, true, true, true, true, true, true, true, true, true, true, true, true, true, false, false, false, false, false, false, false, false, false, false, false, false, false, false, false, false, false, false, false, false] (by kernel_rfl) (by kernel_rfl) rfl (fun _ _ _ hS => YO.loadEl hS kS69 a3 a5 a1 (Rd.own 2 69 rfl) zS69 encS69 encS69_of a0 b9 b8 3 6 0 1 rfl (.int .i64 ((a1.getD a0.toNat zS69).f0)) 65 (by kernel_rfl) (by kernel_rfl) (by kernel_rfl) (by kernel_rfl)) ?_
             refine ED.quick hN hF hC [14, 15, 16] [1, 2, 7, 8, 10, 11, 12, 13, 61, 62, 63, 64, 65, 66, 67, 69] 17 [(1, .int .i64 a9), (2, .int .i64 a10), (7, .slice a7 a2.length a6), (8, .pointer (some ⟨a4, 0, none⟩)), (10, .int .i64 (IntKind.i64.wrap (b0 + (a1.length : Int)))), (11, .int .i64 a8), (12, .slice (some a3) a1.length a5), (13, .int .i64 a0), (61, .slice (some a3) a1.length a5), (62, .int .i64 a0), (63, .pointer (some ((a3.add (a0.toNat * 6)).add 0))), (64, .pointer (some ((a3.add (a0.toNat * 6)).add 0))), (65, .int .i64 ((a1.getD a0.toNat zS69).f0)), (66, .int .i64 a0), (67, .bool (!(decide (((a1.getD a0.toNat zS69).f0) = a0)))), (69, .bool (!(decide (((a1.getD a0.toNat zS69).f0) = a0))))] #[true, true, true, true, true, true, true, true, true, true, true, true, true, true, true, true, true, false, false, false, false, false, false, false, false, false, false, false, false, false, false, false, false, false] (by kernel_rfl) (by kernel_rfl) ?_
             refine ED.keep [1, 2, 7, 8, 10, 11, 12, 13, 61, 62, 63, 64, 65, 66, 67, 69] [(1, .int .i64 a9), (2, .int .i64 a10), (7, .slice a7 a2.length a6), (8, .pointer (some ⟨a4, 0, none⟩)), (10, .int .i64 (IntKind.i64.wrap (b0 + (a1.length : Int)))), (11, .int .i64 a8), (12, .slice (some a3) a1.length a5), (13, .int .i64 a0), (61, .slice (some a3) a1.length a5), (62, .int .i64 a0), (63, .pointer (some ((a3.add (a0.toNat * 6)).add 0))), (64, .pointer (some ((a3.add (a0.toNat * 6)).add 0))), (65, .int .i64 ((a1.getD a0.toNat zS69).f0)), (66, .int .i64 a0), (67, .bool (!(decide (((a1.getD a0.toNat zS69).f0) = a0)))), (69, .bool (!(decide (((a1.getD a0.toNat zS69).f0) = a0))))] (by kernel_rfl) ?_
             refine ED.as' [(1, .int .i64 a9), (2, .int .i64 a10), (7, .slice a7 a2.length a6), (8, .pointer (some ⟨a4, 0, none⟩)), (10, .int .i64 (IntKind.i64.wrap (b0 + (a1.length : Int)))), (11, .int .i64 a8), (12, .slice (some a3) a1.length a5), (13, .int .i64 a0), (61, .slice (some a3) a1.length a5), (62, .int .i64 a0), (63, .pointer (some ((a3.add (a0.toNat * 6)).add 0))), (64, .pointer (some ((a3.add (a0.toNat * 6)).add 0))), (65, .int .i64 ((a1.getD a0.toNat zS69).f0)), (66, .int .i64 a0), (67, .bool (true)), (69, .bool (true))] (by simp only [dec_f f6, Bool.not_true, Bool.not_false]) ?_
             refine ED.quick hN hF hC [17, 18, 19, 20, 21, 22, 23, 24, 25, 26, 27, 28, 29, 30, 31, 32, 33] [1, 2, 7, 8, 10, 11, 12, 13, 61, 62, 63, 64, 65, 66, 67, 70, 71, 72, 73, 74, 75, 76, 77, 78, 79, 80, 81, 82, 83, 84, 85, 86] 0 [(1, .int .i64 a9), (2, .int .i64 a10), (7, .slice a7 a2.length a6), (8, .pointer (some ⟨a4, 0, none⟩)), (10, .int .i64 (IntKind.i64.wrap (b0 + (a1.length : Int)))), (11, .int .i64 a8), (12, .slice (some a3) a1.length a5), (13, .int .i64 a0), (61, .slice (some a3) a1.length a5), (62, .int .i64 a0), (63, .pointer (some ((a3.add (a0.toNat * 6)).add 0))), (64, .pointer (some ((a3.add (a0.toNat * 6)).add 0))), (65, .int .i64 ((a1.getD a0.toNat zS69).f0)), (66, .int .i64 a0), (67, .bool (true)), (70, undef), (71, undef), (72, undef), (73, undef), (74, undef), (75, undef), (76, undef), (77, undef), (78, undef), (79, undef), (80, undef), (81, undef), (82, undef), (83, undef), (84, undef), (85, undef), (86, .bool (true))] #[true, true, true, true, true, true, true, true, true, true, true, true, true, true, true, true, true, true, true, true, true, true, true, true, true, true, true, true, true, true, true, true, true, true] (by kernel_rfl) (by kernel_rfl) ?_
             refine ED.done (by kernel_rfl) ?_
             refine EQ.to ?_
             refine EQ.keep [1, 2, 7, 8, 10, 11, 12, 13, 86] [(1, .int .i64 a9), (2, .int .i64 a10), (7, .slice a7 a2.length a6), (8, .pointer (some ⟨a4, 0, none⟩)), (10, .int .i64 (IntKind.i64.wrap (b0 + (a1.length : Int)))), (11, .int .i64 a8), (12, .slice (some a3) a1.length a5), (13, .int .i64 a0), (86, .bool (true))] (by kernel_rfl) ?_
             exact fun a ha => ⟨true, ha, (hS.re [3, 3, 3, 3] [] rfl (sub_cons 0 rfl (sub_cons 0 rfl (sub_cons 2 rfl (sub_cons 2 rfl (sub_tail (sub_tail (sub_tail (sub_tail (sub_self)))))))))), H⟩
           ·rw [if_neg e1] at H
            have hS := hS.drew
            refine EW.draw (B := B) (id := 20) (ops := Cd9.r.r.r.r.r.r.r.l.r.l.l.r.l.l.r.r.r.l.l.r.l.l.l.ops) [Ass.box 113 a4 [.slice b4 b3.length b5], Ass.own 69 kS69 b4 b5 b3, Ass.own 69 kS69 (some a3) a5 a1, Ass.own 69 kS69 a7 a6 a2] [Ro.sl (Kd.int .i64) (some ⟨b7, 0, none⟩) 1 b6, Ro.sl (Kd.int .i64) (some ⟨b7, 0, none⟩) 1 b6, Ro.sl kS111 A7 C8 l6, Ro.sl kS111 A7 C8 l6] (by kernel_rfl) (by kernel_rfl) ?_
            have hN : Region.noSelect Cd9.r.r.r.r.r.r.r.l.r.l.l.r.l.l.r.r.r.l.l.r.l.l.l.ops = true := (by kernel_rfl)
            have hF : freeAll Cd9.r.r.r.r.r.r.r.l.r.l.l.r.l.l.r.r.r.l.l.r.l.l.l.ops = true := (by kernel_rfl)
            have hC : Core B [Ass.box 113 a4 [.slice b4 b3.length b5], Ass.own 69 kS69 b4 b5 b3, Ass.own 69 kS69 (some a3) a5 a1, Ass.own 69 kS69 a7 a6 a2] [Ro.sl (Kd.int .i64) (some ⟨b7, 0, none⟩) 1 b6, Ro.sl (Kd.int .i64) (some ⟨b7, 0, none⟩) 1 b6, Ro.sl kS111 A7 C8 l6, Ro.sl kS111 A7 C8 l6] _ := ⟨_, _, hS⟩
            refine ED.quick hN hF hC [0, 1, 5] [1, 2, 7, 8, 10, 11, 12, 13, 53, 54, 58] 31 [(1, .int .i64 a9), (2, .int .i64 a10), (7, .slice a7 a2.length a6), (8, .pointer (some ⟨a4, 0, none⟩)), (10, .int .i64 (IntKind.i64.wrap (b0 + (a1.length : Int)))), (11, .int .i64 a8), (12, .slice (some a3) a1.length a5), (13, .int .i64 a0), (53, .slice (some a3) a1.length a5), (54, .int .i64 a0), (58, .int .i64 a8)] #[true, true, false, false, false, true, false, false, false, false, false, false, false, false, false, false, false, false, false, false, false, false, false, false, false, false, false, false, false, false, false, false, false, false] (by kernel_rfl) (by kernel_rfl) ?_
            refine ED.Y hN hF hC 2 30 #[true, true, true, false, false, true, false, false, false, false, false, false, false, false, false, false, false, false, false, false, false, false, false, false, false, false, false, false, false, false, false, false, false, false] (by kernel_rfl) (by kernel_rfl) rfl (fun _ _ _ hS => YO.idx 64 6 a3 a1.length a5 .i64 a0 55 (by kernel_rfl) (by kernel_rfl) (by kernel_rfl) (by kernel_rfl) b9 b8) ?_
            refine ED.quick hN hF hC [3] [1, 2, 7, 8, 10, 11, 12, 13, 56, 58] 29 [(1, .int .i64 a9), (2, .int .i64 a10), (7, .slice a7 a2.length a6), (8, .pointer (some ⟨a4, 0, none⟩)), (10, .int .i64 (IntKind.i64.wrap (b0 + (a1.length : Int)))), (11, .int .i64 a8), (12, .slice (some a3) a1.length a5), (13, .int .i64 a0), (56, .pointer (some ((a3.add (a0.toNat * 6)).add 2))), (58, .int .i64 a8)] #[true, true, true, true, false, true, false, false, false, false, false, false, false, false, false, false, false, false, false, false, false, false, false, false, false, false, false, false, false, false, false, false, false, false] (by kernel_rfl) (by kernel_rfl) ?_
            refine ED.Y hN hF hC 4 28 #[true, true, true, true, true, true, false, false, false, false, false, false, false, false, false, false, false, false, false, false, false, false, false, false, false, false, false, false, false, false, false, false, false, false] (by kernel_rfl) (by kernel_rfl) rfl (fun _ _ _ hS => YO.loadEl hS kS69 a3 a5 a1 (Rd.own 2 69 rfl) zS69 encS69 encS69_of a0 b9 b8 3 6 2 1 rfl (.int .i64 ((a1.getD a0.toNat zS69).f2)) 57 (by kernel_rfl) (by kernel_rfl) (by kernel_rfl) (by kernel_rfl)) ?_
            refine ED.quick hN hF hC [6, 7] [1, 2, 7, 8, 10, 11, 12, 13, 60] 26 [(1, .int .i64 a9), (2, .int .i64 a10), (7, .slice a7 a2.length a6), (8, .pointer (some ⟨a4, 0, none⟩)), (10, .int .i64 (IntKind.i64.wrap (b0 + (a1.length : Int)))), (11, .int .i64 a8), (12, .slice (some a3) a1.length a5), (13, .int .i64 a0), (60, .bool (!(decide (((a1.getD a0.toNat zS69).f2) = a8))))] #[true, true, true, true, true, true, true, true, false, false, false, false, false, false, false, false, false, false, false, false, false, false, false, false, false, false, false, false, false, false, false, false, false, false] (by kernel_rfl) (by kernel_rfl) ?_
            refine ED.keep [1, 2, 7, 8, 10, 11, 12, 13, 60] [(1, .int .i64 a9), (2, .int .i64 a10), (7, .slice a7 a2.length a6), (8, .pointer (some ⟨a4, 0, none⟩)), (10, .int .i64 (IntKind.i64.wrap (b0 + (a1.length : Int)))), (11, .int .i64 a8), (12, .slice (some a3) a1.length a5), (13, .int .i64 a0), (60, .bool (!(decide (((a1.getD a0.toNat zS69).f2) = a8))))] (by kernel_rfl) ?_
            refine ED.as' [(1, .int .i64 a9), (2, .int .i64 a10), (7, .slice a7 a2.length a6), (8, .pointer (some ⟨a4, 0, none⟩)), (10, .int .i64 (IntKind.i64.wrap (b0 + (a1.length : Int)))), (11, .int .i64 a8), (12, .slice (some a3) a1.length a5), (13, .int .i64 a0), (60, .bool (true))] (by simp only [dec_f e1, Bool.not_true, Bool.not_false]) ?_
            refine ED.quick hN hF hC [8, 9, 10, 11, 12, 13, 14, 15, 16, 17, 18, 19, 20, 21, 22, 23, 24, 25, 26, 27, 28, 29, 30, 31, 32, 33] [1, 2, 7, 8, 10, 11, 12, 13, 61, 62, 63, 64, 65, 66, 67, 70, 71, 72, 73, 74, 75, 76, 77, 78, 79, 80, 81, 82, 83, 84, 85, 86] 0 [(1, .int .i64 a9), (2, .int .i64 a10), (7, .slice a7 a2.length a6), (8, .pointer (some ⟨a4, 0, none⟩)), (10, .int .i64 (IntKind.i64.wrap (b0 + (a1.length : Int)))), (11, .int .i64 a8), (12, .slice (some a3) a1.length a5), (13, .int .i64 a0), (61, undef), (62, undef), (63, undef), (64, undef), (65, undef), (66, undef), (67, undef), (70, undef), (71, undef), (72, undef), (73, undef), (74, undef), (75, undef), (76, undef), (77, undef), (78, undef), (79, undef), (80, undef), (81, undef), (82, undef), (83, undef), (84, undef), (85, undef), (86, .bool (true))] #[true, true, true, true, true, true, true, true, true, true, true, true, true, true, true, true, true, true, true, true, true, true, true, true, true, true, true, true, true, true, true, true, true, true] (by kernel_rfl) (by kernel_rfl) ?_
            refine ED.done (by kernel_rfl) ?_
            refine EQ.to ?_
            refine EQ.keep [1, 2, 7, 8, 10, 11, 12, 13, 86] [(1, .int .i64 a9), (2, .int .i64 a10), (7, .slice a7 a2.length a6), (8, .pointer (some ⟨a4, 0, none⟩)), (10, .int .i64 (IntKind.i64.wrap (b0 + (a1.length : Int)))), (11, .int .i64 a8), (12, .slice (some a3) a1.length a5), (13, .int .i64 a0), (86, .bool (true))] (by kernel_rfl) ?_
            exact fun a ha => ⟨true, ha, (hS.re [3, 3, 3, 3] [] rfl (sub_cons 0 rfl (sub_cons 0 rfl (sub_cons 2 rfl (sub_cons 2 rfl (sub_tail (sub_tail (sub_tail (sub_tail (sub_self)))))))))), H⟩
          ·obtain ⟨e5, ha, hS, H⟩ := hI
           rw [n4] at H
           (try dsimp only at H)
           refine EW.at ?_ a ha
           clear ha a
           refine EW.condP' (o := (.tmp 86)) (x := Cd9.r.r.r.r.r.r.r.l.r.l.l.r.l.l.r.r.r.l.l.r.l.l.r.l) (y := Cd9.r.r.r.r.r.r.r.l.r.l.l.r.l.l.r.r.r.l.l.r.l.l.r.r) (e5) (by kernel_rfl) (by kernel_rfl) (fun i4 => ?_) (fun i4 => ?_)
           ·rw [if_pos i4] at H
            refine EW.seq (x := Cd9.r.r.r.r.r.r.r.l.r.l.l.r.l.l.r.r.r.l.l.r.l.l.r.l.l) (y := Cd9.r.r.r.r.r.r.r.l.r.l.l.r.l.l.r.r.r.l.l.r.l.l.r.l.r) (by kernel_rfl) ?_
            refine EW.region (id := 21) (ops := Cd9.r.r.r.r.r.r.r.l.r.l.l.r.l.l.r.r.r.l.l.r.l.l.r.l.l.ops) (by kernel_rfl) ?_
            refine EL.quick 1 [6] [(6, .bool (false))] (by kernel_rfl) ?_
            refine EL.done (by kernel_rfl) ?_
            refine EQ.code ?_
            refine EW.ret (by kernel_rfl) ?_
            refine EQ.ret ?_
            refine EQ.ret ?_
            refine EQ.ret ?_
            refine EQ.ret ?_
            refine EQ.ret ?_
            refine EQ.ret ?_
            refine EQ.ret ?_
            refine EQ.ret ?_
            refine EQ.ret ?_
            obtain rfl := Option.some.inj H
            exact EQ.leave (.bool (false)) (by kernel_rfl) ⟨_, rfl, rfl, (hS.re [] [0, 0, 0, 0] rfl (sub_tail (sub_tail (sub_tail (sub_self)))))⟩
           ·rw [if_neg i4] at H
            refine EW.skip (by kernel_rfl) ?_
            refine EQ.pop ?_
            refine EQ.code ?_
            refine EW.region (id := 19) (ops := Cd9.r.r.r.r.r.r.r.l.r.l.l.r.l.l.r.r.r.l.l.r.r.ops) (by kernel_rfl) ?_
            refine EL.quick 3 [1, 2, 7, 8, 10, 11, 12, 13] [(1, .int .i64 a9), (2, .int .i64 a10), (7, .slice a7 a2.length a6), (8, .pointer (some ⟨a4, 0, none⟩)), (10, .int .i64 (IntKind.i64.wrap (b0 + (a1.length : Int)))), (11, .int .i64 a8), (12, .slice c3 a1.length a5), (13, .int .i64 (IntKind.i64.wrap (a0 + 1)))] (by kernel_rfl) ?_
            refine EL.done (by kernel_rfl) ?_
            refine EQ.to ?_
            refine EQ.keep [1, 2, 7, 8, 10, 11, 12, 13] [(1, .int .i64 a9), (2, .int .i64 a10), (7, .slice a7 a2.length a6), (8, .pointer (some ⟨a4, 0, none⟩)), (10, .int .i64 (IntKind.i64.wrap (b0 + (a1.length : Int)))), (11, .int .i64 a8), (12, .slice c3 a1.length a5), (13, .int .i64 (IntKind.i64.wrap (a0 + 1)))] (by kernel_rfl) ?_
            exact fun a ha => ⟨n, Nat.lt_succ_self n, IntKind.i64.wrap (a0 + 1), ha, (hS.re [3, 3, 3, 3] [] rfl (sub_cons 0 rfl (sub_cons 0 rfl (sub_cons 2 rfl (sub_cons 2 rfl (sub_tail (sub_tail (sub_tail (sub_tail (sub_self)))))))))), H⟩
         ·rw [if_neg b8] at H
          refine EW.exit (id := 4) (by kernel_rfl) ?_
          refine EQ.exitCode ?_
          refine EQ.exitTo ?_
          refine EQ.exitHere ?_
          refine EQ.pop ?_
          refine EQ.to ?_
          refine EQ.keep [1, 2, 7, 8, 10, 11] [(1, .int .i64 a9), (2, .int .i64 a10), (7, .slice a7 a2.length a6), (8, .pointer (some ⟨a4, 0, none⟩)), (10, .int .i64 (IntKind.i64.wrap (b0 + (a1.length : Int)))), (11, .int .i64 a8)] (by kernel_rfl) ?_
          exact fun a ha => ⟨a1, IntKind.i64.wrap (b0 + (a1.length : Int)), c3, a5, ha, (hS.re [3, 3, 3, 3] [] rfl (sub_cons 2 rfl (sub_cons 2 rfl (sub_tail (sub_tail (sub_tail (sub_tail (sub_self)))))))), H⟩
       ·obtain ⟨g4, d2, i7, i8, ha, hS, H⟩ := hI
        rw [n3] at H
        (try dsimp only at H)
        refine EW.at ?_ a ha
        clear ha a
        refine EW.region (id := 14) (ops := Cd9.r.r.r.r.r.r.r.l.r.l.l.r.r.ops) (by kernel_rfl) ?_
        refine EL.quick 3 [1, 2, 7, 8, 10, 11] [(1, .int .i64 a9), (2, .int .i64 a10), (7, .slice a7 a2.length a6), (8, .pointer (some ⟨a4, 0, none⟩)), (10, .int .i64 d2), (11, .int .i64 (IntKind.i64.wrap (a8 + 1)))] (by kernel_rfl) ?_
        refine EL.done (by kernel_rfl) ?_
        refine EQ.to ?_
        refine EQ.keep [1, 2, 7, 8, 10, 11] [(1, .int .i64 a9), (2, .int .i64 a10), (7, .slice a7 a2.length a6), (8, .pointer (some ⟨a4, 0, none⟩)), (10, .int .i64 d2), (11, .int .i64 (IntKind.i64.wrap (a8 + 1)))] (by kernel_rfl) ?_
        exact fun a ha => ⟨n, Nat.lt_succ_self n, d2, IntKind.i64.wrap (a8 + 1), ha, (hS.re [3, 2, 2] [3] rfl (sub_cons 0 rfl (sub_cons 0 rfl (sub_tail (sub_tail (sub_self)))))), H⟩
      ·rw [if_neg i3] at H
       refine EW.exit (id := 2) (by kernel_rfl) ?_
       refine EQ.exitCode ?_
       refine EQ.exitTo ?_
       refine EQ.exitHere ?_
       refine EQ.to ?_
       refine EQ.keep [1, 2, 7, 8, 10] [(1, .int .i64 a9), (2, .int .i64 a10), (7, .slice a7 a2.length a6), (8, .pointer (some ⟨a4, 0, none⟩)), (10, .int .i64 b0)] (by kernel_rfl) ?_
       exact fun a ha => ⟨b0, ha, (hS.re [2, 2, 2] [] rfl (sub_cons 0 rfl (sub_cons 0 rfl (sub_tail (sub_tail (sub_self)))))), H⟩
    ·obtain ⟨d0, ha, hS, H⟩ := hI
     rw [n2] at H
     (try dsimp only at H)
     refine EW.at ?_ a ha
     clear ha a
     refine EW.seq (x := Cd9.r.r.r.r.r.r.r.r.l) (y := Cd9.r.r.r.r.r.r.r.r.r) (by kernel_rfl) ?_
     refine EW.region (id := 22) (ops := Cd9.r.r.r.r.r.r.r.r.l.ops) (by kernel_rfl) ?_
     refine EL.quick 5 [1, 2, 7, 8, 91] [(1, .int .i64 a9), (2, .int .i64 a10), (7, .slice a7 a2.length a6), (8, .pointer (some ⟨a4, 0, none⟩)), (91, .bool (decide (d0 = (a2.length : Int))))] (by kernel_rfl) ?_
     by_cases g0 : d0 = (a2.length : Int)
     ·rw [if_pos g0] at H
      refine EL.keep [1, 2, 7, 8, 91] [(1, .int .i64 a9), (2, .int .i64 a10), (7, .slice a7 a2.length a6), (8, .pointer (some ⟨a4, 0, none⟩)), (91, .bool (decide (d0 = (a2.length : Int))))] (by kernel_rfl) ?_
      refine EL.as' [(1, .int .i64 a9), (2, .int .i64 a10), (7, .slice a7 a2.length a6), (8, .pointer (some ⟨a4, 0, none⟩)), (91, .bool (true))] (by simp only [dec_t g0, Bool.not_true, Bool.not_false]) ?_
      refine EL.quick 1 [1, 2, 7, 8, 91, 92] [(1, .int .i64 a9), (2, .int .i64 a10), (7, .slice a7 a2.length a6), (8, .pointer (some ⟨a4, 0, none⟩)), (91, .bool (true)), (92, .pointer (some ⟨a4, 0, none⟩))] (by kernel_rfl) ?_
      obtain ⟨c0, j3, H⟩ := lt_out H
      refine EL.of (EO.lit hS (Kd.int .i64) 3 66 4 #[(0, .int .i64 0), (1, .int .i64 1), (2, .int .i64 2), (3, .int .i64 3)] [.int .i64 0, .int .i64 1, .int .i64 2, .int .i64 3] c0 93 (by kernel_rfl) (by kernel_rfl) (by kernel_rfl) (fun _ => (by kernel_rfl)) (by rw [j3]; rfl) (by kernel_rfl) (fun w G hr => (by rw [j3]; exact ⟨[.int .i64 0], [.int .i64 1, .int .i64 2, .int .i64 3], rfl, rfl, ⟨[.int .i64 1], [.int .i64 2, .int .i64 3], rfl, rfl, ⟨[.int .i64 2], [.int .i64 3], rfl, rfl, ⟨[.int .i64 3], [], rfl, rfl, rfl⟩⟩⟩⟩)) ?_)
      intro c2 w hS
      have hS := St.fr hS 0 rfl
      have hS : St B _ (Ass.box 113 a4 [.slice b4 b3.length b5] :: Ass.own 69 kS69 b4 b5 b3 :: Ass.own 69 kS69 a7 a6 a2 :: os) (Ro.sl (Kd.int .i64) (some ⟨c2, 0, none⟩) 4 c0 :: Ro.sl (Kd.int .i64) (some ⟨c2, 0, none⟩) 4 c0 :: Ro.sl kS111 A7 C8 l6 :: Ro.sl kS111 A7 C8 l6 :: rs) := hS.re [1, 1] [] rfl (sub_cons 0 rfl sub_self)
      obtain ⟨c1, m5, H⟩ := b1_out H
      refine EL.of (EO.callD 37 [.pointer (some ⟨a4, 0, none⟩), .slice (some ⟨c2, 0, none⟩) c0.length 4] _ 94 (by kernel_rfl) (by kernel_rfl) (by kernel_rfl) (audit_Log_Of_21.calls m5 hS) ?_)
      rintro v w ⟨c4, c5, rfl, hS⟩
      refine EL.quick 1 [1, 2, 8, 91, 94, 95] [(1, .int .i64 a9), (2, .int .i64 a10), (8, .pointer (some ⟨a4, 0, none⟩)), (91, .bool (true)), (94, .slice c4 c1.length c5), (95, .slice a7 a2.length a6)] (by kernel_rfl) ?_
      have hS := St.fr hS 2 rfl
      have hS := St.fr hS 2 rfl
      have hS : St B _ (Ass.box 113 a4 [.slice b4 b3.length b5] :: Ass.own 69 kS69 b4 b5 b3 :: os) (Ro.sl kS69 c4 c5 c1 :: Ro.sl kS69 a7 a6 a2 :: Ro.sl kS69 a7 a6 a2 :: Ro.sl kS69 c4 c5 c1 :: Ro.sl (Kd.int .i64) (some ⟨c2, 0, none⟩) 4 c0 :: Ro.sl (Kd.int .i64) (some ⟨c2, 0, none⟩) 4 c0 :: Ro.sl kS111 A7 C8 l6 :: Ro.sl kS111 A7 C8 l6 :: rs) := hS.re [] [] rfl (sub_cons 1 rfl (sub_cons 0 rfl sub_self))
      obtain ⟨e4, m6, H⟩ := b1_out H
      refine EL.of (EO.callD 35 [.slice c4 c1.length c5, .slice a7 a2.length a6] _ 96 (by kernel_rfl) (by kernel_rfl) (by kernel_rfl) (confidantref21_SameAudit.calls m6 hS) ?_)
      rintro v w ⟨rfl, hS⟩
      refine EL.quick 2 [1, 2, 8, 98] [(1, .int .i64 a9), (2, .int .i64 a10), (8, .pointer (some ⟨a4, 0, none⟩)), (98, .bool (e4))] (by kernel_rfl) ?_
      by_cases g1 : e4 = true
      ·rw [if_pos g1] at H
       refine EL.keep [1, 2, 8, 98] [(1, .int .i64 a9), (2, .int .i64 a10), (8, .pointer (some ⟨a4, 0, none⟩)), (98, .bool (e4))] (by kernel_rfl) ?_
       refine EL.as' [(1, .int .i64 a9), (2, .int .i64 a10), (8, .pointer (some ⟨a4, 0, none⟩)), (98, .bool (true))] (by simp only [g1, Bool.not_true, Bool.not_false]) ?_
       refine EL.quick 1 [1, 2, 8, 98, 99] [(1, .int .i64 a9), (2, .int .i64 a10), (8, .pointer (some ⟨a4, 0, none⟩)), (98, .bool (true)), (99, .pointer (some ⟨a4, 0, none⟩))] (by kernel_rfl) ?_
       have hS := St.nilR hS (Kd.int .i64)
       have hS : St B _ (Ass.box 113 a4 [.slice b4 b3.length b5] :: Ass.own 69 kS69 b4 b5 b3 :: os) (Ro.sl (Kd.int .i64) none 0 ([] : List Int) :: Ro.sl (Kd.int .i64) none 0 ([] : List Int) :: Ro.sl kS69 c4 c5 c1 :: Ro.sl kS69 a7 a6 a2 :: Ro.sl kS69 a7 a6 a2 :: Ro.sl kS69 c4 c5 c1 :: Ro.sl (Kd.int .i64) (some ⟨c2, 0, none⟩) 4 c0 :: Ro.sl (Kd.int .i64) (some ⟨c2, 0, none⟩) 4 c0 :: Ro.sl kS111 A7 C8 l6 :: Ro.sl kS111 A7 C8 l6 :: rs) := hS.re [1, 1] [] rfl (sub_cons 0 rfl sub_self)
       obtain ⟨c8, m7, H⟩ := b1_out H
       refine EL.of (EO.callD 37 [.pointer (some ⟨a4, 0, none⟩), .slice none ([] : List Int).length 0] _ 100 (by kernel_rfl) (by kernel_rfl) (by kernel_rfl) (audit_Log_Of_21.calls m7 hS) ?_)
       rintro v w ⟨g5, g7, rfl, hS⟩
       refine EL.quick 4 [1, 2, 8, 104] [(1, .int .i64 a9), (2, .int .i64 a10), (8, .pointer (some ⟨a4, 0, none⟩)), (104, .bool (decide ((c8.length : Int) = 0)))] (by kernel_rfl) ?_
       by_cases g2 : (c8.length : Int) = 0
       ·rw [if_pos g2] at H
        refine EL.keep [1, 2, 8, 104] [(1, .int .i64 a9), (2, .int .i64 a10), (8, .pointer (some ⟨a4, 0, none⟩)), (104, .bool (decide ((c8.length : Int) = 0)))] (by kernel_rfl) ?_
        refine EL.as' [(1, .int .i64 a9), (2, .int .i64 a10), (8, .pointer (some ⟨a4, 0, none⟩)), (104, .bool (true))] (by simp only [dec_t g2, Bool.not_true, Bool.not_false]) ?_
        refine EL.quick 3 [1, 2, 8, 104, 105, 106, 107] [(1, .int .i64 a9), (2, .int .i64 a10), (8, .pointer (some ⟨a4, 0, none⟩)), (104, .bool (true)), (105, .pointer (some ⟨a4, 0, none⟩)), (106, .int .i64 a9), (107, .int .i64 a10)] (by kernel_rfl) ?_
        obtain ⟨c6, j4, H⟩ := lt_out H
        refine EL.of (EO.lit hS (Kd.int .i64) 3 66 2 #[(0, .int .i64 a9), (1, .int .i64 a10)] [.int .i64 a9, .int .i64 a10] c6 108 (by kernel_rfl) (by kernel_rfl) (by kernel_rfl) (fun _ => (by kernel_rfl)) (by rw [j4]; rfl) (by kernel_rfl) (fun w G hr => (by rw [j4]; exact ⟨[.int .i64 a9], [.int .i64 a10], rfl, rfl, ⟨[.int .i64 a10], [], rfl, rfl, rfl⟩⟩)) ?_)
        intro d3 w hS
        have hS := St.fr hS 0 rfl
        have hS : St B _ (Ass.box 113 a4 [.slice b4 b3.length b5] :: Ass.own 69 kS69 b4 b5 b3 :: Ass.own 69 kS69 g5 g7 c8 :: os) (Ro.sl (Kd.int .i64) (some ⟨d3, 0, none⟩) 2 c6 :: Ro.sl (Kd.int .i64) (some ⟨d3, 0, none⟩) 2 c6 :: Ro.sl (Kd.int .i64) none 0 ([] : List Int) :: Ro.sl (Kd.int .i64) none 0 ([] : List Int) :: Ro.sl kS69 c4 c5 c1 :: Ro.sl kS69 a7 a6 a2 :: Ro.sl kS69 a7 a6 a2 :: Ro.sl kS69 c4 c5 c1 :: Ro.sl (Kd.int .i64) (some ⟨c2, 0, none⟩) 4 c0 :: Ro.sl (Kd.int .i64) (some ⟨c2, 0, none⟩) 4 c0 :: Ro.sl kS111 A7 C8 l6 :: Ro.sl kS111 A7 C8 l6 :: rs) := hS.re [1, 1] [] rfl (sub_cons 0 rfl sub_self)
        obtain ⟨d7, m8, H⟩ := b1_out H
        refine EL.of (EO.callD 37 [.pointer (some ⟨a4, 0, none⟩), .slice (some ⟨d3, 0, none⟩) c6.length 2] _ 109 (by kernel_rfl) (by kernel_rfl) (by kernel_rfl) (audit_Log_Of_21.calls m8 hS) ?_)
        rintro v w ⟨e6, e7, rfl, hS⟩
        refine EL.quick 4 [104, 109, 110, 111, 112, 113] [(104, .bool (true)), (109, .slice e6 d7.length e7), (110, .pointer (some ⟨a4, 0, none⟩)), (111, .int .i64 a10), (112, .int .i64 a9), (113, .int .i64 a9)] (by kernel_rfl) ?_
        obtain ⟨d1, j5, H⟩ := lt_out H
        refine EL.of (EO.lit hS (Kd.int .i64) 3 66 3 #[(0, .int .i64 a10), (1, .int .i64 a9), (2, .int .i64 a9)] [.int .i64 a10, .int .i64 a9, .int .i64 a9] d1 114 (by kernel_rfl) (by kernel_rfl) (by kernel_rfl) (fun _ => (by kernel_rfl)) (by rw [j5]; rfl) (by kernel_rfl) (fun w G hr => (by rw [j5]; exact ⟨[.int .i64 a10], [.int .i64 a9, .int .i64 a9], rfl, rfl, ⟨[.int .i64 a9], [.int .i64 a9], rfl, rfl, ⟨[.int .i64 a9], [], rfl, rfl, rfl⟩⟩⟩)) ?_)
        intro e9 w hS
        have hS := St.fr hS 0 rfl
        have hS : St B _ (Ass.box 113 a4 [.slice b4 b3.length b5] :: Ass.own 69 kS69 b4 b5 b3 :: Ass.own 69 kS69 e6 e7 d7 :: Ass.own 69 kS69 g5 g7 c8 :: os) (Ro.sl (Kd.int .i64) (some ⟨e9, 0, none⟩) 3 d1 :: Ro.sl (Kd.int .i64) (some ⟨e9, 0, none⟩) 3 d1 :: Ro.sl (Kd.int .i64) (some ⟨d3, 0, none⟩) 2 c6 :: Ro.sl (Kd.int .i64) (some ⟨d3, 0, none⟩) 2 c6 :: Ro.sl (Kd.int .i64) none 0 ([] : List Int) :: Ro.sl (Kd.int .i64) none 0 ([] : List Int) :: Ro.sl kS69 c4 c5 c1 :: Ro.sl kS69 a7 a6 a2 :: Ro.sl kS69 a7 a6 a2 :: Ro.sl kS69 c4 c5 c1 :: Ro.sl (Kd.int .i64) (some ⟨c2, 0, none⟩) 4 c0 :: Ro.sl (Kd.int .i64) (some ⟨c2, 0, none⟩) 4 c0 :: Ro.sl kS111 A7 C8 l6 :: Ro.sl kS111 A7 C8 l6 :: rs) := hS.re [1, 1] [] rfl (sub_cons 0 rfl sub_self)
        obtain ⟨f8, m9, H⟩ := b1_out H
        refine EL.of (EO.callD 37 [.pointer (some ⟨a4, 0, none⟩), .slice (some ⟨e9, 0, none⟩) d1.length 3] _ 115 (by kernel_rfl) (by kernel_rfl) (by kernel_rfl) (audit_Log_Of_21.calls m9 hS) ?_)
        rintro v w ⟨g6, g8, rfl, hS⟩
        have hS := St.fr hS 3 rfl
        have hS := St.fr hS 2 rfl
        have hS : St B _ (Ass.box 113 a4 [.slice b4 b3.length b5] :: Ass.own 69 kS69 b4 b5 b3 :: Ass.own 69 kS69 g5 g7 c8 :: os) (Ro.sl kS69 e6 e7 d7 :: Ro.sl kS69 g6 g8 f8 :: Ro.sl kS69 g6 g8 f8 :: Ro.sl kS69 e6 e7 d7 :: Ro.sl (Kd.int .i64) (some ⟨e9, 0, none⟩) 3 d1 :: Ro.sl (Kd.int .i64) (some ⟨e9, 0, none⟩) 3 d1 :: Ro.sl (Kd.int .i64) (some ⟨d3, 0, none⟩) 2 c6 :: Ro.sl (Kd.int .i64) (some ⟨d3, 0, none⟩) 2 c6 :: Ro.sl (Kd.int .i64) none 0 ([] : List Int) :: Ro.sl (Kd.int .i64) none 0 ([] : List Int) :: Ro.sl kS69 c4 c5 c1 :: Ro.sl kS69 a7 a6 a2 :: Ro.sl kS69 a7 a6 a2 :: Ro.sl kS69 c4 c5 c1 :: Ro.sl (Kd.int .i64) (some ⟨c2, 0, none⟩) 4 c0 :: Ro.sl (Kd.int .i64) (some ⟨c2, 0, none⟩) 4 c0 :: Ro.sl kS111 A7 C8 l6 :: Ro.sl kS111 A7 C8 l6 :: rs) := hS.re [] [] rfl (sub_cons 1 rfl (sub_cons 0 rfl sub_self))
        obtain ⟨g3, n0, H⟩ := b1_out H
        refine EL.of (EO.callD 35 [.slice e6 d7.length e7, .slice g6 f8.length g8] _ 116 (by kernel_rfl) (by kernel_rfl) (by kernel_rfl) (confidantref21_SameAudit.calls n0 hS) ?_)
        rintro v w ⟨rfl, hS⟩
        refine EL.quick 2 [6] [(6, .bool (g3))] (by kernel_rfl) ?_
        refine EL.done (by kernel_rfl) ?_
        refine EQ.code ?_
        refine EW.ret (by kernel_rfl) ?_
        obtain rfl := Option.some.inj H
        exact EQ.leave (.bool (g3)) (by kernel_rfl) ⟨_, rfl, rfl, (hS.re [] [0, 0, 0] rfl (sub_tail (sub_tail (sub_tail (sub_tail (sub_tail (sub_tail (sub_tail (sub_tail (sub_tail (sub_tail (sub_tail (sub_tail (sub_tail (sub_tail (sub_tail (sub_tail (sub_tail (sub_self)))))))))))))))))))⟩
       ·rw [if_neg g2] at H
        refine EL.keep [1, 2, 8, 104] [(1, .int .i64 a9), (2, .int .i64 a10), (8, .pointer (some ⟨a4, 0, none⟩)), (104, .bool (decide ((c8.length : Int) = 0)))] (by kernel_rfl) ?_
        refine EL.as' [(1, .int .i64 a9), (2, .int .i64 a10), (8, .pointer (some ⟨a4, 0, none⟩)), (104, .bool (false))] (by simp only [dec_f g2, Bool.not_true, Bool.not_false]) ?_
        refine EL.quick 14 [6] [(6, .bool (false))] (by kernel_rfl) ?_
        refine EL.done (by kernel_rfl) ?_
        refine EQ.code ?_
        refine EW.ret (by kernel_rfl) ?_
        obtain rfl := Option.some.inj H
        exact EQ.leave (.bool (false)) (by kernel_rfl) ⟨_, rfl, rfl, (hS.re [] [0, 0, 0] rfl (sub_tail (sub_tail (sub_tail (sub_tail (sub_tail (sub_tail (sub_tail (sub_tail (sub_tail (sub_self)))))))))))⟩
      ·rw [if_neg g1] at H
       refine EL.keep [1, 2, 8, 98] [(1, .int .i64 a9), (2, .int .i64 a10), (8, .pointer (some ⟨a4, 0, none⟩)), (98, .bool (e4))] (by kernel_rfl) ?_
       refine EL.as' [(1, .int .i64 a9), (2, .int .i64 a10), (8, .pointer (some ⟨a4, 0, none⟩)), (98, .bool (false))] (by simp only [(Bool.eq_false_iff.2 g1), Bool.not_true, Bool.not_false]) ?_
       refine EL.quick 20 [6] [(6, .bool (false))] (by kernel_rfl) ?_
       refine EL.done (by kernel_rfl) ?_
       refine EQ.code ?_
       refine EW.ret (by kernel_rfl) ?_
       obtain rfl := Option.some.inj H
       exact EQ.leave (.bool (false)) (by kernel_rfl) ⟨_, rfl, rfl, (hS.re [] [0, 0] rfl (sub_tail (sub_tail (sub_tail (sub_tail (sub_tail (sub_tail (sub_tail (sub_self)))))))))⟩
     ·rw [if_neg g0] at H
      refine EL.keep [1, 2, 7, 8, 91] [(1, .int .i64 a9), (2, .int .i64 a10), (7, .slice a7 a2.length a6), (8, .pointer (some ⟨a4, 0, none⟩)), (91, .bool (decide (d0 = (a2.length : Int))))] (by kernel_rfl) ?_
      refine EL.as' [(1, .int .i64 a9), (2, .int .i64 a10), (7, .slice a7 a2.length a6), (8, .pointer (some ⟨a4, 0, none⟩)), (91, .bool (false))] (by simp only [dec_f g0, Bool.not_true, Bool.not_false]) ?_
      refine EL.quick 27 [6] [(6, .bool (false))] (by kernel_rfl) ?_
      refine EL.done (by kernel_rfl) ?_
      refine EQ.code ?_
      refine EW.ret (by kernel_rfl) ?_
      obtain rfl := Option.some.inj H
      exact EQ.leave (.bool (false)) (by kernel_rfl) ⟨_, rfl, rfl, (hS.re [] [0, 0, 0] rfl (sub_tail (sub_self)))⟩
 ·rw [if_neg i0] at H
  refine EW.seq (x := Cd9.r.l.r.l.l) (y := Cd9.r.l.r.l.r) (by kernel_rfl) ?_
  refine EW.region (id := 2) (ops := Cd9.r.l.r.l.l.ops) (by kernel_rfl) ?_
  refine EL.quick 1 [6] [(6, .bool (false))] (by kernel_rfl) ?_
  refine EL.done (by kernel_rfl) ?_
  refine EQ.code ?_
  refine EW.ret (by kernel_rfl) ?_
  refine EQ.ret ?_
  obtain rfl := Option.some.inj H
  exact EQ.leave (.bool (false)) (by kernel_rfl) ⟨_, rfl, rfl, (hS.re [] [] rfl (sub_self))⟩

def okS111 (s : S111) : Prop := ((Lit.int .u8 s.f0).wf = true) ∧ ((Lit.int .u8 s.f1).wf = true) ∧ ((Lit.int .u8 s.f2).wf = true) ∧ ((Lit.int .u8 s.f3).wf = true) ∧ True
theorem oS111 : Opens Try.prog 111 kS111 okS111 := Opens.array (fun s : S111 => (s.f0, s.f1, s.f2, s.f3, ())) (fun a => ⟨a.1, a.2.1, a.2.2.1, a.2.2.2.1⟩) (fun _ => rfl) Try.underlying111 (by kernel_rfl) (OpensA.cons (Opens.int Try.underlying5) (OpensA.cons (Opens.int Try.underlying5) (OpensA.cons (Opens.int Try.underlying5) (OpensA.cons (Opens.int Try.underlying5) OpensA.nil rfl) rfl) rfl) rfl) (by kernel_rfl)
def confidantlaw22_AuditParts.Pure : Prop := ∀ (l6 : List S111) (a9 : Int) (a10 : Int), l6.length * 4 ≤ 140737488351232 → (∀ x ∈ l6, okS111 x) → (Lit.int .i64 a9).wf = true → (Lit.int .i64 a10).wf = true → ∃ K, confidantlaw22_AuditParts.f K l6 a9 a10 = some true

end Go.Proofs.Ytipaaapbapijhaa.G
