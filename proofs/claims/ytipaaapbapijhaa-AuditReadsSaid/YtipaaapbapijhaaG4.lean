import Derived.Test.YtipaaapbapijhaaProg
import Derived.Test.YtipaaapbapijhaaFwEq
import Derived.Test.YtipaaapbapijhaaFwOpen
import Derived.Test.YtipaaapbapijhaaG0
import Derived.Test.YtipaaapbapijhaaG1
import Derived.Test.YtipaaapbapijhaaG2
import Derived.Test.YtipaaapbapijhaaG3
namespace Go.Proofs.Ytipaaapbapijhaa.G
open Go Go.Fw Go.RowKit Go.Proofs
set_option linter.unusedVariables false
set_option linter.unusedSimpArgs false

/-! ### confidant/confidantlaw22.AuditReads: function 8 -/
def confidantlaw22_AuditReads.l0 (K : Nat) (a3 : List (List Int)) (d8 : (List (List Int)) → Option Bool) : Nat → Int → Option Bool
 | 0, _ => none
 | n + 1, a5 => if a5 < (a3.length : Int) then (if 0 ≤ a5 then (b2 (audit_Read.f K (a3.getD a5.toNat [])) fun (c0 : List S69) (d6 : Int) => (b2 (confidantref21_AuditRead.f K (a3.getD a5.toNat [])) fun (c3 : List S69) (d9 : Int) => (lt (fun (f4 : Bool) => (if f4 = true then (some false) else (confidantlaw22_AuditReads.l0 K a3 d8 n (IntKind.i64.wrap (a5 + 1))))) fun i0 => (if d6 = d9 then (b1 (confidantref21_SameAudit.f K c0 c3) fun (e0 : Bool) => (i0 (!(e0)))) else (i0 true))))) else none) else (d8 a3)
def confidantlaw22_AuditReads.f (K : Nat) (l12 : List Int) (l15 : List S111) (a18 : Int) (a19 : Int) (l20 : List Int) : Option Bool := b1 (confidantlaw22_known.f K) fun (g3 : Bool) => (if g3 = true then (lt (fun (f3 : Bool) => (if f3 = true then (some true) else (b1 (confidantlaw22_some.f K l15) fun (a0 : List S69) => (b1 (confidantref21_AuditPut.f K a0) fun (a4 : List Int) => (if (([] : List Int).length + a4.length) * 1 ≤ 140737488355328 then (lt (([] : List Int) ++ a4) fun b0 => (if (b0.length : Int) = 0 then none else (if 0 ≤ (Int.tmod (IntKind.i64.wrap a18) (b0.length : Int)) then (if (Int.tmod (IntKind.i64.wrap a18) (b0.length : Int)) < (b0.length : Int) then (lt (b0.set (Int.tmod (IntKind.i64.wrap a18) (b0.length : Int)).toNat (bX .u8 (b0.getD (Int.tmod (IntKind.i64.wrap a18) (b0.length : Int)).toNat 0) a19)) fun b3 => (lt (fun (e3 : List (List Int)) => (b1 (audit_Put.f K a0) fun (e1 : List Int) => (b2 (audit_Read.f K e1) fun (c6 : List S69) (e2 : Int) => (if e2 = 0 then (b1 (confidantref21_SameAudit.f K a0 c6) fun (i1 : Bool) => (some i1)) else (some false))))) fun d8 => (if (a4.length : Int) = 0 then none else (if 0 ≤ (Int.tmod (IntKind.i64.wrap a18) (a4.length : Int)) then (if (Int.tmod (IntKind.i64.wrap a18) (a4.length : Int)) ≤ (a4.length : Int) then (lt (a4.take ((Int.tmod (IntKind.i64.wrap a18) (a4.length : Int)).toNat)) fun b7 => (if (([] : List Int).length + a4.length) * 1 ≤ 140737488355328 then (lt (([] : List Int) ++ a4) fun c9 => (if (c9.length + l20.length) * 1 ≤ 140737488355328 then (lt (c9 ++ l20) fun b5 => (lt ([l12, a4, b3, b7, b5] : List (List Int)) fun a3 => (confidantlaw22_AuditReads.l0 K a3 d8 K 0))) else none)) else none)) else none) else none)))) else none) else none))) else none))))) fun g2 => (if (l12.length : Int) > 80 then (g2 true) else (if (l15.length : Int) > 20 then (g2 true) else (g2 (decide ((l20.length : Int) > 8)))))) else (some false))
set_option maxRecDepth 100000 in
theorem confidantlaw22_AuditReads.calls {K : Nat} {l12 : List Int} {l15 : List S111} {a18 : Int} {a19 : Int} {l20 : List Int} {A13 : Option Addr} {C14 : Nat} {A16 : Option Addr} {C17 : Nat} {A21 : Option Addr} {C22 : Nat} {f2 : Bool} {B w : World} {os : List Ass} {rs : List Ro} (H : confidantlaw22_AuditReads.f K l12 l15 a18 a19 l20 = some f2) (hS : St B w (os) (Ro.sl (Kd.int .u8) A13 C14 l12 :: Ro.sl kS111 A16 C17 l15 :: Ro.sl (Kd.int .u8) A21 C22 l20 :: rs)) :
  Calls Try.prog 8 [.slice A13 l12.length C14, .slice A16 l15.length C17, .int .u16 a18, .int .u8 a19, .slice A21 l20.length C22].toArray w (fun en w' => ∃ v, en = .returned v ∧ v = .bool (f2) ∧ St B w' (os) (Ro.sl (Kd.int .u8) A13 C14 l12 :: Ro.sl kS111 A16 C17 l15 :: Ro.sl (Kd.int .u8) A21 C22 l20 :: rs)) := by
 unfold confidantlaw22_AuditReads.f at H
 refine calls_of_EW (args := [.slice A13 l12.length C14, .slice A16 l15.length C17, .int .u16 a18, .int .u8 a19, .slice A21 l20.length C22]) (c := Cd8) 107 Try.func8 (by kernel_rfl) (by kernel_rfl) (by kernel_rfl) ?_
 refine EW.seq (x := Cd8.l) (y := Cd8.r) (by kernel_rfl) ?_
 refine EW.region (id := 0) (ops := Cd8.l.ops) (by kernel_rfl) ?_
 refine EL.quick 1 [0, 1, 2, 3, 4] [(0, .slice A13 l12.length C14), (1, .slice A16 l15.length C17), (2, .int .u16 a18), (3, .int .u8 a19), (4, .slice A21 l20.length C22)] (by kernel_rfl) ?_
 refine EL.done (by kernel_rfl) ?_
 refine EQ.code ?_
 refine EW.seq (x := Cd8.r.l) (y := Cd8.r.r) (by kernel_rfl) ?_
 refine EW.seq (x := Cd8.r.l.l) (y := Cd8.r.l.r) (by kernel_rfl) ?_
 refine EW.region (id := 1) (ops := Cd8.r.l.l.ops) (by kernel_rfl) ?_
 obtain ⟨g3, m0, H⟩ := b1_out H
 refine EL.of (EO.callD 27 [] _ 22 (by kernel_rfl) (by kernel_rfl) (by kernel_rfl) (confidantlaw22_known.calls m0 hS) ?_)
 rintro v w ⟨rfl, hS⟩
 refine EL.quick 1 [0, 1, 2, 3, 4, 23] [(0, .slice A13 l12.length C14), (1, .slice A16 l15.length C17), (2, .int .u16 a18), (3, .int .u8 a19), (4, .slice A21 l20.length C22), (23, .bool (!(g3)))] (by kernel_rfl) ?_
 refine EL.done (by kernel_rfl) ?_
 refine EQ.code ?_
 refine EW.condQ (b := !(g3)) (o := (.tmp 23)) (x := Cd8.r.l.r.l) (y := Cd8.r.l.r.r) (g3 = true) (false) (by kernel_rfl) (by kernel_rfl) ⟨fun h => (by rw [h] <;> rfl), fun h => (by rw [Bool.eq_false_iff.2 h] <;> rfl)⟩ (fun i7 => ?_) (fun i7 => ?_)
 ·rw [if_pos i7] at H
  refine EW.skip (by kernel_rfl) ?_
  refine EQ.code ?_
  refine EW.seq (x := Cd8.r.r.l) (y := Cd8.r.r.r) (by kernel_rfl) ?_
  obtain ⟨g2, m9, H⟩ := lt_out H
  refine EW.cut (x := Cd8.r.r.l.l) (y := Cd8.r.r.l.r) (fun a w => ∃ f3 : Bool, Sat 107 [(0, .slice A13 l12.length C14), (1, .slice A16 l15.length C17), (2, .int .u16 a18), (3, .int .u8 a19), (4, .slice A21 l20.length C22), (36, .bool (f3))] a ∧ St B w (os) (Ro.sl (Kd.int .u8) A13 C14 l12 :: Ro.sl kS111 A16 C17 l15 :: Ro.sl (Kd.int .u8) A21 C22 l20 :: rs) ∧ g2 f3 = some f2) (by kernel_rfl) ?_ (fun a w hI => ?_)
  ·refine EW.region (id := 3) (ops := Cd8.r.r.l.l.ops) (by kernel_rfl) ?_
   refine EL.quick 4 [0, 1, 2, 3, 4, 27] [(0, .slice A13 l12.length C14), (1, .slice A16 l15.length C17), (2, .int .u16 a18), (3, .int .u8 a19), (4, .slice A21 l20.length C22), (27, .bool (decide ((l12.length : Int) > 80)))] (by kernel_rfl) ?_
   by_cases g6 : (l12.length : Int) > 80
   ·rw [if_pos g6] at H
    refine EL.keep [0, 1, 2, 3, 4, 27] [(0, .slice A13 l12.length C14), (1, .slice A16 l15.length C17), (2, .int .u16 a18), (3, .int .u8 a19), (4, .slice A21 l20.length C22), (27, .bool (decide ((l12.length : Int) > 80)))] (by kernel_rfl) ?_
    refine EL.as' [(0, .slice A13 l12.length C14), (1, .slice A16 l15.length C17), (2, .int .u16 a18), (3, .int .u8 a19), (4, .slice A21 l20.length C22), (27, .bool (true))] (by simp only [dec_t g6, Bool.not_true, Bool.not_false]) ?_
    refine EL.quick 9 [0, 1, 2, 3, 4, 36] [(0, .slice A13 l12.length C14), (1, .slice A16 l15.length C17), (2, .int .u16 a18), (3, .int .u8 a19), (4, .slice A21 l20.length C22), (36, .bool (true))] (by kernel_rfl) ?_
    refine EL.done (by kernel_rfl) ?_
    refine EQ.to ?_
    refine EQ.keep [0, 1, 2, 3, 4, 36] [(0, .slice A13 l12.length C14), (1, .slice A16 l15.length C17), (2, .int .u16 a18), (3, .int .u8 a19), (4, .slice A21 l20.length C22), (36, .bool (true))] (by kernel_rfl) ?_
    exact fun a ha => ⟨true, ha, (hS.re [] [] rfl (sub_cons 0 rfl (sub_cons 1 rfl (sub_cons 2 rfl (sub_tail (sub_tail (sub_tail (sub_self)))))))), H⟩
   ·rw [if_neg g6] at H
    refine EL.keep [0, 1, 2, 3, 4, 27] [(0, .slice A13 l12.length C14), (1, .slice A16 l15.length C17), (2, .int .u16 a18), (3, .int .u8 a19), (4, .slice A21 l20.length C22), (27, .bool (decide ((l12.length : Int) > 80)))] (by kernel_rfl) ?_
    refine EL.as' [(0, .slice A13 l12.length C14), (1, .slice A16 l15.length C17), (2, .int .u16 a18), (3, .int .u8 a19), (4, .slice A21 l20.length C22), (27, .bool (false))] (by simp only [dec_f g6, Bool.not_true, Bool.not_false]) ?_
    refine EL.quick 5 [0, 1, 2, 3, 4, 32] [(0, .slice A13 l12.length C14), (1, .slice A16 l15.length C17), (2, .int .u16 a18), (3, .int .u8 a19), (4, .slice A21 l20.length C22), (32, .bool (decide ((l15.length : Int) > 20)))] (by kernel_rfl) ?_
    by_cases g7 : (l15.length : Int) > 20
    ·rw [if_pos g7] at H
     refine EL.keep [0, 1, 2, 3, 4, 32] [(0, .slice A13 l12.length C14), (1, .slice A16 l15.length C17), (2, .int .u16 a18), (3, .int .u8 a19), (4, .slice A21 l20.length C22), (32, .bool (decide ((l15.length : Int) > 20)))] (by kernel_rfl) ?_
     refine EL.as' [(0, .slice A13 l12.length C14), (1, .slice A16 l15.length C17), (2, .int .u16 a18), (3, .int .u8 a19), (4, .slice A21 l20.length C22), (32, .bool (true))] (by simp only [dec_t g7, Bool.not_true, Bool.not_false]) ?_
     refine EL.quick 4 [0, 1, 2, 3, 4, 36] [(0, .slice A13 l12.length C14), (1, .slice A16 l15.length C17), (2, .int .u16 a18), (3, .int .u8 a19), (4, .slice A21 l20.length C22), (36, .bool (true))] (by kernel_rfl) ?_
     refine EL.done (by kernel_rfl) ?_
     refine EQ.to ?_
     refine EQ.keep [0, 1, 2, 3, 4, 36] [(0, .slice A13 l12.length C14), (1, .slice A16 l15.length C17), (2, .int .u16 a18), (3, .int .u8 a19), (4, .slice A21 l20.length C22), (36, .bool (true))] (by kernel_rfl) ?_
     exact fun a ha => ⟨true, ha, (hS.re [] [] rfl (sub_cons 0 rfl (sub_cons 1 rfl (sub_cons 2 rfl (sub_tail (sub_tail (sub_tail (sub_self)))))))), H⟩
    ·rw [if_neg g7] at H
     refine EL.keep [0, 1, 2, 3, 4, 32] [(0, .slice A13 l12.length C14), (1, .slice A16 l15.length C17), (2, .int .u16 a18), (3, .int .u8 a19), (4, .slice A21 l20.length C22), (32, .bool (decide ((l15.length : Int) > 20)))] (by kernel_rfl) ?_
     refine EL.as' [(0, .slice A13 l12.length C14), (1, .slice A16 l15.length C17), (2, .int .u16 a18), (3, .int .u8 a19), (4, .slice A21 l20.length C22), (32, .bool (false))] (by simp only [dec_f g7, Bool.not_true, Bool.not_false]) ?_
     refine EL.quick 4 [0, 1, 2, 3, 4, 36] [(0, .slice A13 l12.length C14), (1, .slice A16 l15.length C17), (2, .int .u16 a18), (3, .int .u8 a19), (4, .slice A21 l20.length C22), (36, .bool (decide ((l20.length : Int) > 8)))] (by kernel_rfl) ?_
     refine EL.done (by kernel_rfl) ?_
     refine EQ.to ?_
     refine EQ.keep [0, 1, 2, 3, 4, 36] [(0, .slice A13 l12.length C14), (1, .slice A16 l15.length C17), (2, .int .u16 a18), (3, .int .u8 a19), (4, .slice A21 l20.length C22), (36, .bool (decide ((l20.length : Int) > 8)))] (by kernel_rfl) ?_
     exact fun a ha => ⟨decide ((l20.length : Int) > 8), ha, (hS.re [] [] rfl (sub_cons 0 rfl (sub_cons 1 rfl (sub_cons 2 rfl (sub_tail (sub_tail (sub_tail (sub_self)))))))), H⟩
  ·obtain ⟨f3, ha, hS, H⟩ := hI
   rw [m9] at H
   (try dsimp only at H)
   refine EW.at ?_ a ha
   clear ha a
   refine EW.condP' (o := (.tmp 36)) (x := Cd8.r.r.l.r.l) (y := Cd8.r.r.l.r.r) (f3) (by kernel_rfl) (by kernel_rfl) (fun i8 => ?_) (fun i8 => ?_)
   ·rw [if_pos i8] at H
    refine EW.seq (x := Cd8.r.r.l.r.l.l) (y := Cd8.r.r.l.r.l.r) (by kernel_rfl) ?_
    refine EW.region (id := 4) (ops := Cd8.r.r.l.r.l.l.ops) (by kernel_rfl) ?_
    refine EL.quick 1 [10] [(10, .bool (true))] (by kernel_rfl) ?_
    refine EL.done (by kernel_rfl) ?_
    refine EQ.code ?_
    refine EW.ret (by kernel_rfl) ?_
    refine EQ.ret ?_
    obtain rfl := Option.some.inj H
    exact EQ.leave (.bool (true)) (by kernel_rfl) ⟨_, rfl, rfl, (hS.re [] [] rfl (sub_self))⟩
   ·rw [if_neg i8] at H
    refine EW.skip (by kernel_rfl) ?_
    refine EQ.code ?_
    refine EW.seq (x := Cd8.r.r.r.l) (y := Cd8.r.r.r.r) (by kernel_rfl) ?_
    refine EW.region (id := 5) (ops := Cd8.r.r.r.l.ops) (by kernel_rfl) ?_
    refine EL.quick 1 [0, 2, 3, 4, 37] [(0, .slice A13 l12.length C14), (2, .int .u16 a18), (3, .int .u8 a19), (4, .slice A21 l20.length C22), (37, .slice A16 l15.length C17)] (by kernel_rfl) ?_
    have hS : St B _ (os) (Ro.sl kS111 A16 C17 l15 :: Ro.sl (Kd.int .u8) A13 C14 l12 :: Ro.sl kS111 A16 C17 l15 :: Ro.sl (Kd.int .u8) A21 C22 l20 :: rs) := hS.re [] [] rfl (sub_cons 1 rfl sub_self)
    obtain ⟨a0, m1, H⟩ := b1_out H
    refine EL.of (EO.callD 28 [.slice A16 l15.length C17] _ 38 (by kernel_rfl) (by kernel_rfl) (by kernel_rfl) (confidantlaw22_some.calls m1 hS) ?_)
    rintro v w ⟨a1, a2, rfl, hS⟩
    refine EL.quick 1 [0, 2, 3, 4, 11] [(0, .slice A13 l12.length C14), (2, .int .u16 a18), (3, .int .u8 a19), (4, .slice A21 l20.length C22), (11, .slice a1 a0.length a2)] (by kernel_rfl) ?_
    refine EL.done (by kernel_rfl) ?_
    refine EQ.code ?_
    refine EW.seq (x := Cd8.r.r.r.r.l) (y := Cd8.r.r.r.r.r) (by kernel_rfl) ?_
    refine EW.region (id := 6) (ops := Cd8.r.r.r.r.l.ops) (by kernel_rfl) ?_
    refine EL.quick 1 [0, 2, 3, 4, 11, 39] [(0, .slice A13 l12.length C14), (2, .int .u16 a18), (3, .int .u8 a19), (4, .slice A21 l20.length C22), (11, .slice a1 a0.length a2), (39, .slice a1 a0.length a2)] (by kernel_rfl) ?_
    have hS := St.fr hS 0 rfl
    have hS : St B _ (os) (Ro.sl kS69 a1 a2 a0 :: Ro.sl kS69 a1 a2 a0 :: Ro.sl kS111 A16 C17 l15 :: Ro.sl (Kd.int .u8) A13 C14 l12 :: Ro.sl kS111 A16 C17 l15 :: Ro.sl (Kd.int .u8) A21 C22 l20 :: rs) := hS.re [] [] rfl (sub_cons 0 rfl sub_self)
    obtain ⟨a4, m2, H⟩ := b1_out H
    refine EL.of (EO.callD 34 [.slice a1 a0.length a2] _ 40 (by kernel_rfl) (by kernel_rfl) (by kernel_rfl) (confidantref21_AuditPut.calls m2 hS) ?_)
    rintro v w ⟨a8, a6, rfl, hS⟩
    refine EL.quick 1 [0, 2, 3, 4, 11, 12] [(0, .slice A13 l12.length C14), (2, .int .u16 a18), (3, .int .u8 a19), (4, .slice A21 l20.length C22), (11, .slice a1 a0.length a2), (12, .slice a8 a4.length a6)] (by kernel_rfl) ?_
    refine EL.done (by kernel_rfl) ?_
    refine EQ.code ?_
    refine EW.seq (x := Cd8.r.r.r.r.r.l) (y := Cd8.r.r.r.r.r.r) (by kernel_rfl) ?_
    refine EW.region (id := 7) (ops := Cd8.r.r.r.r.r.l.ops) (by kernel_rfl) ?_
    refine EL.quick 1 [0, 2, 3, 4, 11, 12, 41] [(0, .slice A13 l12.length C14), (2, .int .u16 a18), (3, .int .u8 a19), (4, .slice A21 l20.length C22), (11, .slice a1 a0.length a2), (12, .slice a8 a4.length a6), (41, .slice a8 a4.length a6)] (by kernel_rfl) ?_
    have hS := St.nilO hS 5 (Kd.int .u8)
    obtain ⟨j7, H⟩ := ite_in H
    obtain ⟨b0, n2, H⟩ := lt_out H
    refine EL.of (EO.append hS 75 75 5 1 0 (Kd.int .u8) none 0 ([] : List Int) rfl a8 a6 a4 (Rd.own 1 5 rfl) b0 n2 (fun f5 a7 => Ass.own 5 (Kd.int .u8) f5 a7 b0 :: Ass.own 5 (Kd.int .u8) a8 a6 a4 :: os) 42 (by kernel_rfl) (by kernel_rfl) (by kernel_rfl) (by kernel_rfl) j7 (fun _ _ => rfl) ?_)
    intro f5 a7 w hS
    refine EL.quick 1 [0, 2, 3, 4, 11, 12, 13] [(0, .slice A13 l12.length C14), (2, .int .u16 a18), (3, .int .u8 a19), (4, .slice A21 l20.length C22), (11, .slice a1 a0.length a2), (12, .slice a8 a4.length a6), (13, .slice f5 b0.length a7)] (by kernel_rfl) ?_
    refine EL.done (by kernel_rfl) ?_
    refine EQ.code ?_
    refine EW.seq (x := Cd8.r.r.r.r.r.r.l) (y := Cd8.r.r.r.r.r.r.r) (by kernel_rfl) ?_
    refine EW.region (id := 8) (ops := Cd8.r.r.r.r.r.r.l.ops) (by kernel_rfl) ?_
    refine EL.quick 5 [0, 2, 3, 4, 11, 12, 13, 43, 45, 47] [(0, .slice A13 l12.length C14), (2, .int .u16 a18), (3, .int .u8 a19), (4, .slice A21 l20.length C22), (11, .slice a1 a0.length a2), (12, .slice a8 a4.length a6), (13, .slice f5 b0.length a7), (43, .slice f5 b0.length a7), (45, .int .i64 (IntKind.i64.wrap a18)), (47, .int .i64 (b0.length : Int))] (by kernel_rfl) ?_
    obtain ⟨j8, H⟩ := ite_out H
    refine EL.of (EO.Y (YO.div .rem .i64 (IntKind.i64.wrap a18) (b0.length : Int) (Int.tmod (IntKind.i64.wrap a18) (b0.length : Int)) 48 (by kernel_rfl) (by kernel_rfl) (by kernel_rfl) j8 (by first | exact .inl ⟨rfl, rfl⟩ | exact .inr ⟨rfl, rfl⟩)) ?_)
    obtain ⟨g0, H⟩ := ite_in H
    obtain ⟨g1, H⟩ := ite_in H
    obtain ⟨a9, rfl⟩ := St.rd_some hS (Rd.own 0 5 rfl) g0 g1
    refine EL.of (EO.Y (YO.idx 75 1 a9 b0.length a7 .i64 (Int.tmod (IntKind.i64.wrap a18) (b0.length : Int)) 49 (by kernel_rfl) (by kernel_rfl) (by kernel_rfl) (by kernel_rfl) g0 g1) ?_)
    refine EL.of (EO.Y (YO.loadEl hS (Kd.int .u8) a9 a7 b0 (Rd.own 0 5 rfl) 0 (encI .u8) encI_of (Int.tmod (IntKind.i64.wrap a18) (b0.length : Int)) g0 g1 5 1 0 1 rfl (.int .u8 (b0.getD (Int.tmod (IntKind.i64.wrap a18) (b0.length : Int)).toNat 0)) 50 (by kernel_rfl) (by kernel_rfl) (by kernel_rfl) (by kernel_rfl)) ?_)
    refine EL.quick 2 [0, 2, 4, 11, 12, 13, 43, 48, 52] [(0, .slice A13 l12.length C14), (2, .int .u16 a18), (4, .slice A21 l20.length C22), (11, .slice a1 a0.length a2), (12, .slice a8 a4.length a6), (13, .slice (some a9) b0.length a7), (43, .slice (some a9) b0.length a7), (48, .int .i64 (Int.tmod (IntKind.i64.wrap a18) (b0.length : Int))), (52, .int .u8 (bX .u8 (b0.getD (Int.tmod (IntKind.i64.wrap a18) (b0.length : Int)).toNat 0) a19))] (by kernel_rfl) ?_
    refine EL.of (EO.Y (YO.idx 75 1 a9 b0.length a7 .i64 (Int.tmod (IntKind.i64.wrap a18) (b0.length : Int)) 53 (by kernel_rfl) (by kernel_rfl) (by kernel_rfl) (by kernel_rfl) g0 g1) ?_)
    obtain ⟨b3, j5, H⟩ := lt_out H
    refine EL.of (EO.storeEl hS 0 (Kd.int .u8) 5 a9 a7 b0 rfl (Int.tmod (IntKind.i64.wrap a18) (b0.length : Int)) g0 g1 0 5 1 0 rfl (.int .u8 (bX .u8 (b0.getD (Int.tmod (IntKind.i64.wrap a18) (b0.length : Int)).toNat 0) a19)) (bX .u8 (b0.getD (Int.tmod (IntKind.i64.wrap a18) (b0.length : Int)).toNat 0) a19) b3 j5 (Ass.own 5 (Kd.int .u8) (some a9) a7 b3 :: Ass.own 5 (Kd.int .u8) a8 a6 a4 :: os) (by kernel_rfl) (by kernel_rfl) (by kernel_rfl) (by kernel_rfl) (by kernel_rfl) (by kernel_rfl) (fun w G vs hr h => set_whole h (by kernel_rfl) rfl) rfl ?_)
    intro w hS
    refine EL.keep [0, 2, 4, 11, 12, 13] [(0, .slice A13 l12.length C14), (2, .int .u16 a18), (4, .slice A21 l20.length C22), (11, .slice a1 a0.length a2), (12, .slice a8 a4.length a6), (13, .slice (some a9) b0.length a7)] (by kernel_rfl) ?_
    refine EL.as' [(0, .slice A13 l12.length C14), (2, .int .u16 a18), (4, .slice A21 l20.length C22), (11, .slice a1 a0.length a2), (12, .slice a8 a4.length a6), (13, .slice (some a9) b3.length a7)] (by simp only [j5, List.length_set]) ?_
    refine EL.done (by kernel_rfl) ?_
    refine EQ.code ?_
    obtain ⟨d8, n0, H⟩ := lt_out H
    refine EW.cut (x := Cd8.r.r.r.r.r.r.r.l) (y := Cd8.r.r.r.r.r.r.r.r) (fun a w => ∃ e3 : List (List Int), ∃ f6 : Option Addr, ∃ f8 : Nat, Sat 107 [(11, .slice a1 a0.length a2)] a ∧ St B w (Ass.own 75 (Kd.slice (Kd.int .u8)) f6 f8 e3 :: os) (Ro.sl (Kd.int .u8) (some a9) a7 b3 :: Ro.sl (Kd.int .u8) a8 a6 a4 :: Ro.sl kS69 a1 a2 a0 :: Ro.sl kS69 a1 a2 a0 :: Ro.sl kS111 A16 C17 l15 :: Ro.sl (Kd.int .u8) A13 C14 l12 :: Ro.sl kS111 A16 C17 l15 :: Ro.sl (Kd.int .u8) A21 C22 l20 :: rs) ∧ d8 e3 = some f2) (by kernel_rfl) ?_ (fun a w hI => ?_)
    ·refine EW.seq (x := Cd8.r.r.r.r.r.r.r.l.l) (y := Cd8.r.r.r.r.r.r.r.l.r) (by kernel_rfl) ?_
     obtain ⟨j9, H⟩ := ite_out H
     obtain ⟨n3, H⟩ := ite_in H
     obtain ⟨n4, H⟩ := ite_in H
     obtain ⟨b7, j2, H⟩ := lt_out H
     obtain ⟨j4, H⟩ := ite_in H
     obtain ⟨c9, j6, H⟩ := lt_out H
     obtain ⟨i9, H⟩ := ite_in H
     obtain ⟨b5, j3, H⟩ := lt_out H
     obtain ⟨a3, f1, H⟩ := lt_out H
     refine EW.meet (id := 9) (ops := Cd8.r.r.r.r.r.r.r.l.l.ops) (fun a w => ∃ d7 : Option Addr, ∃ b4 : Nat, Sat 107 [(11, .slice a1 a0.length a2), (68, .slice d7 a3.length b4), (69, .int .i64 (a3.length : Int)), (70, .int .i64 0)] a ∧ St B w (Ass.own 75 (Kd.slice (Kd.int .u8)) d7 b4 a3 :: os) (Ro.sl (Kd.int .u8) (some a9) a7 b3 :: Ro.sl (Kd.int .u8) a8 a6 a4 :: Ro.sl kS69 a1 a2 a0 :: Ro.sl kS69 a1 a2 a0 :: Ro.sl kS111 A16 C17 l15 :: Ro.sl (Kd.int .u8) A13 C14 l12 :: Ro.sl kS111 A16 C17 l15 :: Ro.sl (Kd.int .u8) A21 C22 l20 :: rs)) (by kernel_rfl) ?_ (fun a w hI => ?_)
     ·have hS := hS.drew
      refine EW.draw (B := B) (id := 9) (ops := Cd8.r.r.r.r.r.r.r.l.l.ops) [] [Ro.sl kS69 a1 a2 a0, Ro.sl kS69 a1 a2 a0, Ro.sl kS111 A16 C17 l15, Ro.sl (Kd.int .u8) A13 C14 l12, Ro.sl kS111 A16 C17 l15, Ro.sl (Kd.int .u8) A21 C22 l20] (by kernel_rfl) (by kernel_rfl) ?_
      have hN : Region.noSelect Cd8.r.r.r.r.r.r.r.l.l.ops = true := (by kernel_rfl)
      have hF : freeAll Cd8.r.r.r.r.r.r.r.l.l.ops = true := (by kernel_rfl)
      have hC : Core B [] [Ro.sl kS69 a1 a2 a0, Ro.sl kS69 a1 a2 a0, Ro.sl kS111 A16 C17 l15, Ro.sl (Kd.int .u8) A13 C14 l12, Ro.sl kS111 A16 C17 l15, Ro.sl (Kd.int .u8) A21 C22 l20] _ := ⟨_, _, hS⟩
      refine ED.quick hN hF hC [0, 1, 2, 3, 4, 5, 6, 7, 10, 12, 16] [11, 54, 55, 56, 57, 59, 61, 64, 66, 70] 6 [(11, .slice a1 a0.length a2), (54, .slice A13 l12.length C14), (55, .slice a8 a4.length a6), (56, .slice (some a9) b3.length a7), (57, .slice a8 a4.length a6), (59, .int .i64 (IntKind.i64.wrap a18)), (61, .int .i64 (a4.length : Int)), (64, .slice a8 a4.length a6), (66, .slice A21 l20.length C22), (70, .int .i64 0)] #[true, true, true, true, true, true, true, true, false, false, true, false, true, false, false, false, true] (by kernel_rfl) (by kernel_rfl) ?_
      refine ED.Y hN hF hC 8 5 #[true, true, true, true, true, true, true, true, true, false, true, false, true, false, false, false, true] (by kernel_rfl) (by kernel_rfl) rfl (fun _ _ _ hS => YO.div .rem .i64 (IntKind.i64.wrap a18) (a4.length : Int) (Int.tmod (IntKind.i64.wrap a18) (a4.length : Int)) 62 (by kernel_rfl) (by kernel_rfl) (by kernel_rfl) j9 (by first | exact .inl ⟨rfl, rfl⟩ | exact .inr ⟨rfl, rfl⟩)) ?_
      refine ED.two 9 11 4 (by kernel_rfl) (by kernel_rfl) ?_ ?_
      ·have hS := St.fr hS 1 rfl
       refine EO.sliceRo hS (Kd.int .u8) a8 a6 a4 0 rfl none (some (.int .i64 (Int.tmod (IntKind.i64.wrap a18) (a4.length : Int)))) none 0 ((Int.tmod (IntKind.i64.wrap a18) (a4.length : Int)).toNat) a6 b7 (by rw [j2]; exact (slice_hi _ _)) 75 63 (by kernel_rfl) (by kernel_rfl) (by kernel_rfl) (by kernel_rfl) (rfl) ((Int.toNat_of_nonneg (by omega)).symm) ⟨rfl, fun h => by first | rfl | cases h⟩ (by omega) (by omega) (.inl rfl) ?_
       intro e4 e7 hS
       have hC : Core B [] [Ro.sl kS69 a1 a2 a0, Ro.sl kS69 a1 a2 a0, Ro.sl kS111 A16 C17 l15, Ro.sl (Kd.int .u8) A13 C14 l12, Ro.sl kS111 A16 C17 l15, Ro.sl (Kd.int .u8) A21 C22 l20] _ := ⟨_, _, hS.re [] [] rfl (sub_cons 2 rfl (sub_cons 2 rfl (sub_cons 4 rfl (sub_cons 5 rfl (sub_cons 4 rfl (sub_cons 7 rfl sub_self))))))⟩
       refine ⟨hC, ?_⟩
       refine ED.at' #[true, true, true, true, true, true, true, true, true, true, true, false, true, false, false, false, true] (by kernel_rfl) ?_
       have hS := St.nilO hS 5 (Kd.int .u8)
       refine ED.one 11 3 #[true, true, true, true, true, true, true, true, true, true, true, true, true, false, false, false, true] (by kernel_rfl) (by kernel_rfl) (by kernel_rfl) (EO.append hS 75 75 5 1 0 (Kd.int .u8) none 0 ([] : List Int) rfl a8 a6 a4 (Rd.ro 1 rfl) c9 j6 (fun i2 i3 => Ass.own 5 (Kd.int .u8) i2 i3 c9 :: Ass.own 5 (Kd.int .u8) (some a9) a7 b3 :: os) 65 (by kernel_rfl) (by kernel_rfl) (by kernel_rfl) (by kernel_rfl) j4 (fun _ _ => rfl) ?_)
       intro i2 i3 w hS
       have hC : Core B [] [Ro.sl kS69 a1 a2 a0, Ro.sl kS69 a1 a2 a0, Ro.sl kS111 A16 C17 l15, Ro.sl (Kd.int .u8) A13 C14 l12, Ro.sl kS111 A16 C17 l15, Ro.sl (Kd.int .u8) A21 C22 l20] _ := ⟨_, _, hS.re [] [] rfl (sub_cons 2 rfl (sub_cons 2 rfl (sub_cons 4 rfl (sub_cons 5 rfl (sub_cons 4 rfl (sub_cons 7 rfl sub_self))))))⟩
       refine ⟨hC, ?_⟩
       refine ED.one 13 2 #[true, true, true, true, true, true, true, true, true, true, true, true, true, true, false, false, true] (by kernel_rfl) (by kernel_rfl) (by kernel_rfl) (EO.append hS 75 75 5 1 0 (Kd.int .u8) i2 i3 c9 rfl A21 C22 l20 (Rd.ro 7 rfl) b5 j3 (fun d0 d3 => Ass.own 5 (Kd.int .u8) d0 d3 b5 :: Ass.own 5 (Kd.int .u8) (some a9) a7 b3 :: os) 67 (by kernel_rfl) (by kernel_rfl) (by kernel_rfl) (by kernel_rfl) i9 (fun _ _ => rfl) ?_)
       intro d0 d3 w hS
       have hC : Core B [] [Ro.sl kS69 a1 a2 a0, Ro.sl kS69 a1 a2 a0, Ro.sl kS111 A16 C17 l15, Ro.sl (Kd.int .u8) A13 C14 l12, Ro.sl kS111 A16 C17 l15, Ro.sl (Kd.int .u8) A21 C22 l20] _ := ⟨_, _, hS.re [] [] rfl (sub_cons 2 rfl (sub_cons 2 rfl (sub_cons 4 rfl (sub_cons 5 rfl (sub_cons 4 rfl (sub_cons 7 rfl sub_self))))))⟩
       refine ⟨hC, ?_⟩
       have hS := St.fr hS 1 rfl
       have hS := St.fr hS 0 rfl
       refine ED.one 14 1 #[true, true, true, true, true, true, true, true, true, true, true, true, true, true, true, false, true] (by kernel_rfl) (by kernel_rfl) (by kernel_rfl) (EO.lit hS (Kd.slice (Kd.int .u8)) 75 82 5 #[(0, .slice A13 l12.length C14), (1, .slice a8 a4.length a6), (2, .slice (some a9) b3.length a7), (3, .slice e4 b7.length e7), (4, .slice d0 b5.length d3)] [.slice A13 l12.length C14, .slice a8 a4.length a6, .slice (some a9) b3.length a7, .slice e4 b7.length e7, .slice d0 b5.length d3] a3 68 (by kernel_rfl) (by kernel_rfl) (by kernel_rfl) (fun _ => (by kernel_rfl)) (by rw [f1]; rfl) (by kernel_rfl) (fun w G hr => (by rw [f1]; exact ⟨[.slice A13 l12.length C14], [.slice a8 a4.length a6, .slice (some a9) b3.length a7, .slice e4 b7.length e7, .slice d0 b5.length d3], rfl, (hr _ (List.mem_of_getElem? (i := 7) rfl)), ⟨[.slice a8 a4.length a6], [.slice (some a9) b3.length a7, .slice e4 b7.length e7, .slice d0 b5.length d3], rfl, (hr _ (List.mem_of_getElem? (i := 3) rfl)), ⟨[.slice (some a9) b3.length a7], [.slice e4 b7.length e7, .slice d0 b5.length d3], rfl, (hr _ (List.mem_of_getElem? (i := 1) rfl)), ⟨[.slice e4 b7.length e7], [.slice d0 b5.length d3], rfl, (hr _ (List.mem_of_getElem? (i := 2) rfl)), ⟨[.slice d0 b5.length d3], [], rfl, (hr _ (List.mem_of_getElem? (i := 0) rfl)), rfl⟩⟩⟩⟩⟩)) ?_)
       intro i4 w hS
       have hC : Core B [] [Ro.sl kS69 a1 a2 a0, Ro.sl kS69 a1 a2 a0, Ro.sl kS111 A16 C17 l15, Ro.sl (Kd.int .u8) A13 C14 l12, Ro.sl kS111 A16 C17 l15, Ro.sl (Kd.int .u8) A21 C22 l20] _ := ⟨_, _, hS.re [] [] rfl (sub_cons 4 rfl (sub_cons 4 rfl (sub_cons 6 rfl (sub_cons 7 rfl (sub_cons 6 rfl (sub_cons 9 rfl sub_self))))))⟩
       refine ⟨hC, ?_⟩
       refine ED.quick hN hF hC [15] [11, 68, 69, 70] 0 [(11, .slice a1 a0.length a2), (68, .slice (some ⟨i4, 0, none⟩) a3.length 5), (69, .int .i64 (a3.length : Int)), (70, .int .i64 0)] #[true, true, true, true, true, true, true, true, true, true, true, true, true, true, true, true, true] (by kernel_rfl) (by kernel_rfl) ?_
       refine ED.done (by kernel_rfl) ?_
       refine EQ.to ?_
       refine EQ.keep [11, 68, 69, 70] [(11, .slice a1 a0.length a2), (68, .slice (some ⟨i4, 0, none⟩) a3.length 5), (69, .int .i64 (a3.length : Int)), (70, .int .i64 0)] (by kernel_rfl) ?_
       exact fun a ha => ⟨(some ⟨i4, 0, none⟩), 5, ha, (hS.re [0] [] rfl (sub_cons 1 rfl (sub_cons 3 rfl (sub_cons 4 rfl (sub_cons 4 rfl (sub_cons 6 rfl (sub_cons 7 rfl (sub_cons 6 rfl (sub_cons 9 rfl (sub_tail (sub_tail (sub_tail (sub_tail (sub_tail (sub_tail (sub_tail (sub_tail (sub_tail (sub_tail (sub_self))))))))))))))))))))⟩
      ·have hS := St.nilO hS 5 (Kd.int .u8)
       refine EO.append hS 75 75 5 1 0 (Kd.int .u8) none 0 ([] : List Int) rfl a8 a6 a4 (Rd.own 2 5 rfl) c9 j6 (fun g4 g5 => Ass.own 5 (Kd.int .u8) g4 g5 c9 :: Ass.own 5 (Kd.int .u8) (some a9) a7 b3 :: Ass.own 5 (Kd.int .u8) a8 a6 a4 :: os) 65 (by kernel_rfl) (by kernel_rfl) (by kernel_rfl) (by kernel_rfl) j4 (fun _ _ => rfl) ?_
       intro g4 g5 w hS
       have hC : Core B [] [Ro.sl kS69 a1 a2 a0, Ro.sl kS69 a1 a2 a0, Ro.sl kS111 A16 C17 l15, Ro.sl (Kd.int .u8) A13 C14 l12, Ro.sl kS111 A16 C17 l15, Ro.sl (Kd.int .u8) A21 C22 l20] _ := ⟨_, _, hS⟩
       refine ⟨hC, ?_⟩
       refine ED.at' #[true, true, true, true, true, true, true, true, true, false, true, true, true, false, false, false, true] (by kernel_rfl) ?_
       refine ED.two 9 13 3 (by kernel_rfl) (by kernel_rfl) ?_ ?_
       ·have hS := St.fr hS 2 rfl
        refine EO.sliceRo hS (Kd.int .u8) a8 a6 a4 0 rfl none (some (.int .i64 (Int.tmod (IntKind.i64.wrap a18) (a4.length : Int)))) none 0 ((Int.tmod (IntKind.i64.wrap a18) (a4.length : Int)).toNat) a6 b7 (by rw [j2]; exact (slice_hi _ _)) 75 63 (by kernel_rfl) (by kernel_rfl) (by kernel_rfl) (by kernel_rfl) (rfl) ((Int.toNat_of_nonneg (by omega)).symm) ⟨rfl, fun h => by first | rfl | cases h⟩ (by omega) (by omega) (.inl rfl) ?_
        intro e5 e8 hS
        have hC : Core B [] [Ro.sl kS69 a1 a2 a0, Ro.sl kS69 a1 a2 a0, Ro.sl kS111 A16 C17 l15, Ro.sl (Kd.int .u8) A13 C14 l12, Ro.sl kS111 A16 C17 l15, Ro.sl (Kd.int .u8) A21 C22 l20] _ := ⟨_, _, hS.re [] [] rfl (sub_cons 2 rfl (sub_cons 2 rfl (sub_cons 4 rfl (sub_cons 5 rfl (sub_cons 4 rfl (sub_cons 7 rfl sub_self))))))⟩
        refine ⟨hC, ?_⟩
        refine ED.at' #[true, true, true, true, true, true, true, true, true, true, true, true, true, false, false, false, true] (by kernel_rfl) ?_
        refine ED.one 13 2 #[true, true, true, true, true, true, true, true, true, true, true, true, true, true, false, false, true] (by kernel_rfl) (by kernel_rfl) (by kernel_rfl) (EO.append hS 75 75 5 1 0 (Kd.int .u8) g4 g5 c9 rfl A21 C22 l20 (Rd.ro 7 rfl) b5 j3 (fun d1 d4 => Ass.own 5 (Kd.int .u8) d1 d4 b5 :: Ass.own 5 (Kd.int .u8) (some a9) a7 b3 :: os) 67 (by kernel_rfl) (by kernel_rfl) (by kernel_rfl) (by kernel_rfl) i9 (fun _ _ => rfl) ?_)
        intro d1 d4 w hS
        have hC : Core B [] [Ro.sl kS69 a1 a2 a0, Ro.sl kS69 a1 a2 a0, Ro.sl kS111 A16 C17 l15, Ro.sl (Kd.int .u8) A13 C14 l12, Ro.sl kS111 A16 C17 l15, Ro.sl (Kd.int .u8) A21 C22 l20] _ := ⟨_, _, hS.re [] [] rfl (sub_cons 2 rfl (sub_cons 2 rfl (sub_cons 4 rfl (sub_cons 5 rfl (sub_cons 4 rfl (sub_cons 7 rfl sub_self))))))⟩
        refine ⟨hC, ?_⟩
        have hS := St.fr hS 1 rfl
        have hS := St.fr hS 0 rfl
        refine ED.one 14 1 #[true, true, true, true, true, true, true, true, true, true, true, true, true, true, true, false, true] (by kernel_rfl) (by kernel_rfl) (by kernel_rfl) (EO.lit hS (Kd.slice (Kd.int .u8)) 75 82 5 #[(0, .slice A13 l12.length C14), (1, .slice a8 a4.length a6), (2, .slice (some a9) b3.length a7), (3, .slice e5 b7.length e8), (4, .slice d1 b5.length d4)] [.slice A13 l12.length C14, .slice a8 a4.length a6, .slice (some a9) b3.length a7, .slice e5 b7.length e8, .slice d1 b5.length d4] a3 68 (by kernel_rfl) (by kernel_rfl) (by kernel_rfl) (fun _ => (by kernel_rfl)) (by rw [f1]; rfl) (by kernel_rfl) (fun w G hr => (by rw [f1]; exact ⟨[.slice A13 l12.length C14], [.slice a8 a4.length a6, .slice (some a9) b3.length a7, .slice e5 b7.length e8, .slice d1 b5.length d4], rfl, (hr _ (List.mem_of_getElem? (i := 7) rfl)), ⟨[.slice a8 a4.length a6], [.slice (some a9) b3.length a7, .slice e5 b7.length e8, .slice d1 b5.length d4], rfl, (hr _ (List.mem_of_getElem? (i := 3) rfl)), ⟨[.slice (some a9) b3.length a7], [.slice e5 b7.length e8, .slice d1 b5.length d4], rfl, (hr _ (List.mem_of_getElem? (i := 1) rfl)), ⟨[.slice e5 b7.length e8], [.slice d1 b5.length d4], rfl, (hr _ (List.mem_of_getElem? (i := 2) rfl)), ⟨[.slice d1 b5.length d4], [], rfl, (hr _ (List.mem_of_getElem? (i := 0) rfl)), rfl⟩⟩⟩⟩⟩)) ?_)
        intro i5 w hS
        have hC : Core B [] [Ro.sl kS69 a1 a2 a0, Ro.sl kS69 a1 a2 a0, Ro.sl kS111 A16 C17 l15, Ro.sl (Kd.int .u8) A13 C14 l12, Ro.sl kS111 A16 C17 l15, Ro.sl (Kd.int .u8) A21 C22 l20] _ := ⟨_, _, hS.re [] [] rfl (sub_cons 4 rfl (sub_cons 4 rfl (sub_cons 6 rfl (sub_cons 7 rfl (sub_cons 6 rfl (sub_cons 9 rfl sub_self))))))⟩
        refine ⟨hC, ?_⟩
        refine ED.quick hN hF hC [15] [11, 68, 69, 70] 0 [(11, .slice a1 a0.length a2), (68, .slice (some ⟨i5, 0, none⟩) a3.length 5), (69, .int .i64 (a3.length : Int)), (70, .int .i64 0)] #[true, true, true, true, true, true, true, true, true, true, true, true, true, true, true, true, true] (by kernel_rfl) (by kernel_rfl) ?_
        refine ED.done (by kernel_rfl) ?_
        refine EQ.to ?_
        refine EQ.keep [11, 68, 69, 70] [(11, .slice a1 a0.length a2), (68, .slice (some ⟨i5, 0, none⟩) a3.length 5), (69, .int .i64 (a3.length : Int)), (70, .int .i64 0)] (by kernel_rfl) ?_
        exact fun a ha => ⟨(some ⟨i5, 0, none⟩), 5, ha, (hS.re [0] [] rfl (sub_cons 1 rfl (sub_cons 3 rfl (sub_cons 4 rfl (sub_cons 4 rfl (sub_cons 6 rfl (sub_cons 7 rfl (sub_cons 6 rfl (sub_cons 9 rfl (sub_tail (sub_tail (sub_tail (sub_tail (sub_tail (sub_tail (sub_tail (sub_tail (sub_tail (sub_tail (sub_self))))))))))))))))))))⟩
       ·refine EO.append hS 75 75 5 1 0 (Kd.int .u8) g4 g5 c9 rfl A21 C22 l20 (Rd.ro 5 rfl) b5 j3 (fun d2 d5 => Ass.own 5 (Kd.int .u8) d2 d5 b5 :: Ass.own 5 (Kd.int .u8) (some a9) a7 b3 :: Ass.own 5 (Kd.int .u8) a8 a6 a4 :: os) 67 (by kernel_rfl) (by kernel_rfl) (by kernel_rfl) (by kernel_rfl) i9 (fun _ _ => rfl) ?_
        intro d2 d5 w hS
        have hC : Core B [] [Ro.sl kS69 a1 a2 a0, Ro.sl kS69 a1 a2 a0, Ro.sl kS111 A16 C17 l15, Ro.sl (Kd.int .u8) A13 C14 l12, Ro.sl kS111 A16 C17 l15, Ro.sl (Kd.int .u8) A21 C22 l20] _ := ⟨_, _, hS⟩
        refine ⟨hC, ?_⟩
        refine ED.at' #[true, true, true, true, true, true, true, true, true, false, true, true, true, true, false, false, true] (by kernel_rfl) ?_
        have hS := St.fr hS 2 rfl
        refine ED.one 9 2 #[true, true, true, true, true, true, true, true, true, true, true, true, true, true, false, false, true] (by kernel_rfl) (by kernel_rfl) (by kernel_rfl) (EO.sliceRo hS (Kd.int .u8) a8 a6 a4 0 rfl none (some (.int .i64 (Int.tmod (IntKind.i64.wrap a18) (a4.length : Int)))) none 0 ((Int.tmod (IntKind.i64.wrap a18) (a4.length : Int)).toNat) a6 b7 (by rw [j2]; exact (slice_hi _ _)) 75 63 (by kernel_rfl) (by kernel_rfl) (by kernel_rfl) (by kernel_rfl) (rfl) ((Int.toNat_of_nonneg (by omega)).symm) ⟨rfl, fun h => by first | rfl | cases h⟩ (by omega) (by omega) (.inl rfl) ?_)
        intro e6 e9 hS
        have hC : Core B [] [Ro.sl kS69 a1 a2 a0, Ro.sl kS69 a1 a2 a0, Ro.sl kS111 A16 C17 l15, Ro.sl (Kd.int .u8) A13 C14 l12, Ro.sl kS111 A16 C17 l15, Ro.sl (Kd.int .u8) A21 C22 l20] _ := ⟨_, _, hS.re [] [] rfl (sub_cons 2 rfl (sub_cons 2 rfl (sub_cons 4 rfl (sub_cons 5 rfl (sub_cons 4 rfl (sub_cons 7 rfl sub_self))))))⟩
        refine ⟨hC, ?_⟩
        have hS := St.fr hS 1 rfl
        have hS := St.fr hS 0 rfl
        refine ED.one 14 1 #[true, true, true, true, true, true, true, true, true, true, true, true, true, true, true, false, true] (by kernel_rfl) (by kernel_rfl) (by kernel_rfl) (EO.lit hS (Kd.slice (Kd.int .u8)) 75 82 5 #[(0, .slice A13 l12.length C14), (1, .slice a8 a4.length a6), (2, .slice (some a9) b3.length a7), (3, .slice e6 b7.length e9), (4, .slice d2 b5.length d5)] [.slice A13 l12.length C14, .slice a8 a4.length a6, .slice (some a9) b3.length a7, .slice e6 b7.length e9, .slice d2 b5.length d5] a3 68 (by kernel_rfl) (by kernel_rfl) (by kernel_rfl) (fun _ => (by kernel_rfl)) (by rw [f1]; rfl) (by kernel_rfl) (fun w G hr => (by rw [f1]; exact ⟨[.slice A13 l12.length C14], [.slice a8 a4.length a6, .slice (some a9) b3.length a7, .slice e6 b7.length e9, .slice d2 b5.length d5], rfl, (hr _ (List.mem_of_getElem? (i := 7) rfl)), ⟨[.slice a8 a4.length a6], [.slice (some a9) b3.length a7, .slice e6 b7.length e9, .slice d2 b5.length d5], rfl, (hr _ (List.mem_of_getElem? (i := 3) rfl)), ⟨[.slice (some a9) b3.length a7], [.slice e6 b7.length e9, .slice d2 b5.length d5], rfl, (hr _ (List.mem_of_getElem? (i := 1) rfl)), ⟨[.slice e6 b7.length e9], [.slice d2 b5.length d5], rfl, (hr _ (List.mem_of_getElem? (i := 2) rfl)), ⟨[.slice d2 b5.length d5], [], rfl, (hr _ (List.mem_of_getElem? (i := 0) rfl)), rfl⟩⟩⟩⟩⟩)) ?_)
        intro i6 w hS
        have hC : Core B [] [Ro.sl kS69 a1 a2 a0, Ro.sl kS69 a1 a2 a0, Ro.sl kS111 A16 C17 l15, Ro.sl (Kd.int .u8) A13 C14 l12, Ro.sl kS111 A16 C17 l15, Ro.sl (Kd.int .u8) A21 C22 l20] _ := ⟨_, _, hS.re [] [] rfl (sub_cons 4 rfl (sub_cons 4 rfl (sub_cons 6 rfl (sub_cons 7 rfl (sub_cons 6 rfl (sub_cons 9 rfl sub_self))))))⟩
        refine ⟨hC, ?_⟩
        refine ED.quick hN hF hC [15] [11, 68, 69, 70] 0 [(11, .slice a1 a0.length a2), (68, .slice (some ⟨i6, 0, none⟩) a3.length 5), (69, .int .i64 (a3.length : Int)), (70, .int .i64 0)] #[true, true, true, true, true, true, true, true, true, true, true, true, true, true, true, true, true] (by kernel_rfl) (by kernel_rfl) ?_
        refine ED.done (by kernel_rfl) ?_
        refine EQ.to ?_
        refine EQ.keep [11, 68, 69, 70] [(11, .slice a1 a0.length a2), (68, .slice (some ⟨i6, 0, none⟩) a3.length 5), (69, .int .i64 (a3.length : Int)), (70, .int .i64 0)] (by kernel_rfl) ?_
        exact fun a ha => ⟨(some ⟨i6, 0, none⟩), 5, ha, (hS.re [0] [] rfl (sub_cons 1 rfl (sub_cons 3 rfl (sub_cons 4 rfl (sub_cons 4 rfl (sub_cons 6 rfl (sub_cons 7 rfl (sub_cons 6 rfl (sub_cons 9 rfl (sub_tail (sub_tail (sub_tail (sub_tail (sub_tail (sub_tail (sub_tail (sub_tail (sub_tail (sub_tail (sub_self))))))))))))))))))))⟩
     ·obtain ⟨d7, b4, ha, hS⟩ := hI
      refine EQ.at ?_ a ha
      clear ha a
      refine EQ.code ?_
      refine EW.block (x := Cd8.r.r.r.r.r.r.r.l.r.l) (id := 0) (by kernel_rfl) ?_
      refine EW.loop (x := Cd8.r.r.r.r.r.r.r.l.r.l.l) (fun n a w => ∃ a5 : Int, Sat 107 [(11, .slice a1 a0.length a2), (68, .slice d7 a3.length b4), (69, .int .i64 (a3.length : Int)), (70, .int .i64 a5)] a ∧ St B w (Ass.own 75 (Kd.slice (Kd.int .u8)) d7 b4 a3 :: os) (Ro.sl (Kd.int .u8) (some a9) a7 b3 :: Ro.sl (Kd.int .u8) a8 a6 a4 :: Ro.sl kS69 a1 a2 a0 :: Ro.sl kS69 a1 a2 a0 :: Ro.sl kS111 A16 C17 l15 :: Ro.sl (Kd.int .u8) A13 C14 l12 :: Ro.sl kS111 A16 C17 l15 :: Ro.sl (Kd.int .u8) A21 C22 l20 :: rs) ∧ confidantlaw22_AuditReads.l0 K a3 d8 n a5 = some f2) K (by kernel_rfl) ?_ (fun n a w hI => ?_)
      ·refine EQ.keep [11, 68, 69, 70] [(11, .slice a1 a0.length a2), (68, .slice d7 a3.length b4), (69, .int .i64 (a3.length : Int)), (70, .int .i64 0)] (by kernel_rfl) ?_
       exact fun a ha => ⟨0, ha, (hS.re [0] [] rfl (sub_cons 0 rfl (sub_cons 1 rfl (sub_cons 2 rfl (sub_cons 2 rfl (sub_cons 4 rfl (sub_cons 5 rfl (sub_cons 4 rfl (sub_cons 7 rfl (sub_tail (sub_tail (sub_tail (sub_tail (sub_tail (sub_tail (sub_tail (sub_tail (sub_self)))))))))))))))))), H⟩
      ·obtain ⟨a5, ha, hS, H⟩ := hI
       obtain _ | n := n
       ·simp [confidantlaw22_AuditReads.l0] at H
       rw [confidantlaw22_AuditReads.l0.eq_2] at H
       refine EW.at ?_ a ha
       clear ha a
       refine EW.seq (x := Cd8.r.r.r.r.r.r.r.l.r.l.l.l) (y := Cd8.r.r.r.r.r.r.r.l.r.l.l.r) (by kernel_rfl) ?_
       refine EW.region (id := 10) (ops := Cd8.r.r.r.r.r.r.r.l.r.l.l.l.ops) (by kernel_rfl) ?_
       refine EL.quick 1 [11, 68, 69, 70, 71] [(11, .slice a1 a0.length a2), (68, .slice d7 a3.length b4), (69, .int .i64 (a3.length : Int)), (70, .int .i64 a5), (71, .bool (decide (a5 < (a3.length : Int))))] (by kernel_rfl) ?_
       refine EL.done (by kernel_rfl) ?_
       refine EQ.code ?_
       refine EW.seq (x := Cd8.r.r.r.r.r.r.r.l.r.l.l.r.l) (y := Cd8.r.r.r.r.r.r.r.l.r.l.l.r.r) (by kernel_rfl) ?_
       refine EW.condP (o := (.tmp 71)) (x := Cd8.r.r.r.r.r.r.r.l.r.l.l.r.l.l) (y := Cd8.r.r.r.r.r.r.r.l.r.l.l.r.l.r) (a5 < (a3.length : Int)) (by kernel_rfl) (by kernel_rfl) (fun f0 => ?_) (fun f0 => ?_)
       ·rw [if_pos f0] at H
        refine EW.skip (by kernel_rfl) ?_
        refine EQ.code ?_
        refine EW.seq (x := Cd8.r.r.r.r.r.r.r.l.r.l.l.r.r.l) (y := Cd8.r.r.r.r.r.r.r.l.r.l.l.r.r.r) (by kernel_rfl) ?_
        refine EW.block (x := Cd8.r.r.r.r.r.r.r.l.r.l.l.r.r.l.l) (id := 1) (by kernel_rfl) ?_
        refine EW.seq (x := Cd8.r.r.r.r.r.r.r.l.r.l.l.r.r.l.l.l) (y := Cd8.r.r.r.r.r.r.r.l.r.l.l.r.r.l.l.r) (by kernel_rfl) ?_
        refine EW.region (id := 11) (ops := Cd8.r.r.r.r.r.r.r.l.r.l.l.r.r.l.l.l.ops) (by kernel_rfl) ?_
        obtain ⟨j0, H⟩ := ite_in H
        obtain ⟨b6, rfl⟩ := St.rd_some hS (Rd.own 0 75 rfl) j0 f0
        refine EL.of (EO.Y (YO.idx 82 1 b6 a3.length b4 .i64 a5 72 (by kernel_rfl) (by kernel_rfl) (by kernel_rfl) (by kernel_rfl) j0 f0) ?_)
        refine EL.of (EO.loadSl hS (Kd.int .u8) b6 b4 a3 (Rd.own 0 75 rfl) a5 j0 f0 75 73 (by kernel_rfl) (by kernel_rfl) (by kernel_rfl) (by kernel_rfl) ?_)
        intro b8 b9 hS
        refine EL.quick 1 [11, 15, 68, 69, 70] [(11, .slice a1 a0.length a2), (15, .slice b8 (a3.getD a5.toNat []).length b9), (68, .slice (some b6) a3.length b4), (69, .int .i64 (a3.length : Int)), (70, .int .i64 a5)] (by kernel_rfl) ?_
        refine EL.done (by kernel_rfl) ?_
        refine EQ.code ?_
        refine EW.seq (x := Cd8.r.r.r.r.r.r.r.l.r.l.l.r.r.l.l.r.l) (y := Cd8.r.r.r.r.r.r.r.l.r.l.l.r.r.l.l.r.r) (by kernel_rfl) ?_
        refine EW.region (id := 12) (ops := Cd8.r.r.r.r.r.r.r.l.r.l.l.r.r.l.l.r.l.ops) (by kernel_rfl) ?_
        refine EL.quick 1 [11, 15, 68, 69, 70, 75] [(11, .slice a1 a0.length a2), (15, .slice b8 (a3.getD a5.toNat []).length b9), (68, .slice (some b6) a3.length b4), (69, .int .i64 (a3.length : Int)), (70, .int .i64 a5), (75, .slice b8 (a3.getD a5.toNat []).length b9)] (by kernel_rfl) ?_
        have hS : St B _ (Ass.own 75 (Kd.slice (Kd.int .u8)) (some b6) b4 a3 :: os) (Ro.sl (Kd.int .u8) b8 b9 (a3.getD a5.toNat []) :: Ro.sl (Kd.int .u8) b8 b9 (a3.getD a5.toNat []) :: Ro.sl (Kd.int .u8) (some a9) a7 b3 :: Ro.sl (Kd.int .u8) a8 a6 a4 :: Ro.sl kS69 a1 a2 a0 :: Ro.sl kS69 a1 a2 a0 :: Ro.sl kS111 A16 C17 l15 :: Ro.sl (Kd.int .u8) A13 C14 l12 :: Ro.sl kS111 A16 C17 l15 :: Ro.sl (Kd.int .u8) A21 C22 l20 :: rs) := hS.re [] [] rfl (sub_cons 0 rfl sub_self)
        obtain ⟨c0, d6, m3, H⟩ := b2_out H
        refine EL.of (EO.callD 39 [.slice b8 (a3.getD a5.toNat []).length b9] _ 76 (by kernel_rfl) (by kernel_rfl) (by kernel_rfl) (audit_Read.calls m3 hS) ?_)
        rintro v w ⟨c1, c2, rfl, hS⟩
        refine EL.quick 5 [11, 15, 16, 17, 68, 69, 70] [(11, .slice a1 a0.length a2), (15, .slice b8 (a3.getD a5.toNat []).length b9), (16, .slice c1 c0.length c2), (17, .int .i64 d6), (68, .slice (some b6) a3.length b4), (69, .int .i64 (a3.length : Int)), (70, .int .i64 a5)] (by kernel_rfl) ?_
        refine EL.done (by kernel_rfl) ?_
        refine EQ.code ?_
        refine EW.seq (x := Cd8.r.r.r.r.r.r.r.l.r.l.l.r.r.l.l.r.r.l) (y := Cd8.r.r.r.r.r.r.r.l.r.l.l.r.r.l.l.r.r.r) (by kernel_rfl) ?_
        refine EW.region (id := 13) (ops := Cd8.r.r.r.r.r.r.r.l.r.l.l.r.r.l.l.r.r.l.ops) (by kernel_rfl) ?_
        refine EL.quick 1 [11, 16, 17, 68, 69, 70, 80] [(11, .slice a1 a0.length a2), (16, .slice c1 c0.length c2), (17, .int .i64 d6), (68, .slice (some b6) a3.length b4), (69, .int .i64 (a3.length : Int)), (70, .int .i64 a5), (80, .slice b8 (a3.getD a5.toNat []).length b9)] (by kernel_rfl) ?_
        have hS : St B _ (Ass.own 75 (Kd.slice (Kd.int .u8)) (some b6) b4 a3 :: os) (Ro.sl (Kd.int .u8) b8 b9 (a3.getD a5.toNat []) :: Ro.sl kS69 c1 c2 c0 :: Ro.sl (Kd.int .u8) b8 b9 (a3.getD a5.toNat []) :: Ro.sl (Kd.int .u8) b8 b9 (a3.getD a5.toNat []) :: Ro.sl (Kd.int .u8) (some a9) a7 b3 :: Ro.sl (Kd.int .u8) a8 a6 a4 :: Ro.sl kS69 a1 a2 a0 :: Ro.sl kS69 a1 a2 a0 :: Ro.sl kS111 A16 C17 l15 :: Ro.sl (Kd.int .u8) A13 C14 l12 :: Ro.sl kS111 A16 C17 l15 :: Ro.sl (Kd.int .u8) A21 C22 l20 :: rs) := hS.re [] [] rfl (sub_cons 1 rfl sub_self)
        obtain ⟨c3, d9, m4, H⟩ := b2_out H
        refine EL.of (EO.callD 40 [.slice b8 (a3.getD a5.toNat []).length b9] _ 81 (by kernel_rfl) (by kernel_rfl) (by kernel_rfl) (confidantref21_AuditRead.calls m4 hS) ?_)
        rintro v w ⟨c4, c5, rfl, hS⟩
        refine EL.quick 5 [11, 16, 17, 18, 19, 68, 69, 70] [(11, .slice a1 a0.length a2), (16, .slice c1 c0.length c2), (17, .int .i64 d6), (18, .slice c4 c3.length c5), (19, .int .i64 d9), (68, .slice (some b6) a3.length b4), (69, .int .i64 (a3.length : Int)), (70, .int .i64 a5)] (by kernel_rfl) ?_
        refine EL.done (by kernel_rfl) ?_
        refine EQ.code ?_
        obtain ⟨i0, n1, H⟩ := lt_out H
        refine EW.cut (x := Cd8.r.r.r.r.r.r.r.l.r.l.l.r.r.l.l.r.r.r.l) (y := Cd8.r.r.r.r.r.r.r.l.r.l.l.r.r.l.l.r.r.r.r) (fun a w => ∃ f4 : Bool, Sat 107 [(11, .slice a1 a0.length a2), (68, .slice (some b6) a3.length b4), (69, .int .i64 (a3.length : Int)), (70, .int .i64 a5), (92, .bool (f4))] a ∧ St B w (Ass.own 75 (Kd.slice (Kd.int .u8)) (some b6) b4 a3 :: os) (Ro.sl kS69 c1 c2 c0 :: Ro.sl kS69 c4 c5 c3 :: Ro.sl kS69 c4 c5 c3 :: Ro.sl (Kd.int .u8) b8 b9 (a3.getD a5.toNat []) :: Ro.sl kS69 c1 c2 c0 :: Ro.sl (Kd.int .u8) b8 b9 (a3.getD a5.toNat []) :: Ro.sl (Kd.int .u8) b8 b9 (a3.getD a5.toNat []) :: Ro.sl (Kd.int .u8) (some a9) a7 b3 :: Ro.sl (Kd.int .u8) a8 a6 a4 :: Ro.sl kS69 a1 a2 a0 :: Ro.sl kS69 a1 a2 a0 :: Ro.sl kS111 A16 C17 l15 :: Ro.sl (Kd.int .u8) A13 C14 l12 :: Ro.sl kS111 A16 C17 l15 :: Ro.sl (Kd.int .u8) A21 C22 l20 :: rs) ∧ i0 f4 = some f2) (by kernel_rfl) ?_ (fun a w hI => ?_)
        ·refine EW.region (id := 14) (ops := Cd8.r.r.r.r.r.r.r.l.r.l.l.r.r.l.l.r.r.r.l.ops) (by kernel_rfl) ?_
         refine EL.quick 4 [11, 16, 18, 68, 69, 70, 87] [(11, .slice a1 a0.length a2), (16, .slice c1 c0.length c2), (18, .slice c4 c3.length c5), (68, .slice (some b6) a3.length b4), (69, .int .i64 (a3.length : Int)), (70, .int .i64 a5), (87, .bool (!(decide (d6 = d9))))] (by kernel_rfl) ?_
         by_cases g8 : d6 = d9
         ·rw [if_pos g8] at H
          refine EL.keep [11, 16, 18, 68, 69, 70, 87] [(11, .slice a1 a0.length a2), (16, .slice c1 c0.length c2), (18, .slice c4 c3.length c5), (68, .slice (some b6) a3.length b4), (69, .int .i64 (a3.length : Int)), (70, .int .i64 a5), (87, .bool (!(decide (d6 = d9))))] (by kernel_rfl) ?_
          refine EL.as' [(11, .slice a1 a0.length a2), (16, .slice c1 c0.length c2), (18, .slice c4 c3.length c5), (68, .slice (some b6) a3.length b4), (69, .int .i64 (a3.length : Int)), (70, .int .i64 a5), (87, .bool (false))] (by simp only [dec_t g8, Bool.not_true, Bool.not_false]) ?_
          refine EL.quick 2 [11, 68, 69, 70, 87, 88, 89] [(11, .slice a1 a0.length a2), (68, .slice (some b6) a3.length b4), (69, .int .i64 (a3.length : Int)), (70, .int .i64 a5), (87, .bool (false)), (88, .slice c1 c0.length c2), (89, .slice c4 c3.length c5)] (by kernel_rfl) ?_
          have hS : St B _ (Ass.own 75 (Kd.slice (Kd.int .u8)) (some b6) b4 a3 :: os) (Ro.sl kS69 c1 c2 c0 :: Ro.sl kS69 c4 c5 c3 :: Ro.sl kS69 c4 c5 c3 :: Ro.sl (Kd.int .u8) b8 b9 (a3.getD a5.toNat []) :: Ro.sl kS69 c1 c2 c0 :: Ro.sl (Kd.int .u8) b8 b9 (a3.getD a5.toNat []) :: Ro.sl (Kd.int .u8) b8 b9 (a3.getD a5.toNat []) :: Ro.sl (Kd.int .u8) (some a9) a7 b3 :: Ro.sl (Kd.int .u8) a8 a6 a4 :: Ro.sl kS69 a1 a2 a0 :: Ro.sl kS69 a1 a2 a0 :: Ro.sl kS111 A16 C17 l15 :: Ro.sl (Kd.int .u8) A13 C14 l12 :: Ro.sl kS111 A16 C17 l15 :: Ro.sl (Kd.int .u8) A21 C22 l20 :: rs) := hS.re [] [] rfl (sub_cons 2 rfl (sub_cons 0 rfl sub_self))
          obtain ⟨e0, m5, H⟩ := b1_out H
          refine EL.of (EO.callD 35 [.slice c1 c0.length c2, .slice c4 c3.length c5] _ 90 (by kernel_rfl) (by kernel_rfl) (by kernel_rfl) (confidantref21_SameAudit.calls m5 hS) ?_)
          rintro v w ⟨rfl, hS⟩
          refine EL.quick 2 [11, 68, 69, 70, 88, 89, 90, 91, 92] [(11, .slice a1 a0.length a2), (68, .slice (some b6) a3.length b4), (69, .int .i64 (a3.length : Int)), (70, .int .i64 a5), (88, .slice c1 c0.length c2), (89, .slice c4 c3.length c5), (90, .bool (e0)), (91, .bool (!(e0))), (92, .bool (!(e0)))] (by kernel_rfl) ?_
          refine EL.done (by kernel_rfl) ?_
          refine EQ.to ?_
          refine EQ.keep [11, 68, 69, 70, 92] [(11, .slice a1 a0.length a2), (68, .slice (some b6) a3.length b4), (69, .int .i64 (a3.length : Int)), (70, .int .i64 a5), (92, .bool (!(e0)))] (by kernel_rfl) ?_
          exact fun a ha => ⟨!(e0), ha, (hS.re [0] [] rfl (sub_cons 0 rfl (sub_cons 1 rfl (sub_cons 1 rfl (sub_cons 3 rfl (sub_cons 0 rfl (sub_cons 3 rfl (sub_cons 3 rfl (sub_cons 7 rfl (sub_cons 8 rfl (sub_cons 9 rfl (sub_cons 9 rfl (sub_cons 11 rfl (sub_cons 12 rfl (sub_cons 11 rfl (sub_cons 14 rfl (sub_tail (sub_tail (sub_tail (sub_tail (sub_tail (sub_tail (sub_tail (sub_tail (sub_tail (sub_tail (sub_tail (sub_tail (sub_tail (sub_tail (sub_tail (sub_self)))))))))))))))))))))))))))))))), H⟩
         ·rw [if_neg g8] at H
          refine EL.keep [11, 16, 18, 68, 69, 70, 87] [(11, .slice a1 a0.length a2), (16, .slice c1 c0.length c2), (18, .slice c4 c3.length c5), (68, .slice (some b6) a3.length b4), (69, .int .i64 (a3.length : Int)), (70, .int .i64 a5), (87, .bool (!(decide (d6 = d9))))] (by kernel_rfl) ?_
          refine EL.as' [(11, .slice a1 a0.length a2), (16, .slice c1 c0.length c2), (18, .slice c4 c3.length c5), (68, .slice (some b6) a3.length b4), (69, .int .i64 (a3.length : Int)), (70, .int .i64 a5), (87, .bool (true))] (by simp only [dec_f g8, Bool.not_true, Bool.not_false]) ?_
          refine EL.quick 5 [11, 68, 69, 70, 92] [(11, .slice a1 a0.length a2), (68, .slice (some b6) a3.length b4), (69, .int .i64 (a3.length : Int)), (70, .int .i64 a5), (92, .bool (true))] (by kernel_rfl) ?_
          refine EL.done (by kernel_rfl) ?_
          refine EQ.to ?_
          refine EQ.keep [11, 68, 69, 70, 92] [(11, .slice a1 a0.length a2), (68, .slice (some b6) a3.length b4), (69, .int .i64 (a3.length : Int)), (70, .int .i64 a5), (92, .bool (true))] (by kernel_rfl) ?_
          exact fun a ha => ⟨true, ha, (hS.re [0] [] rfl (sub_cons 2 rfl (sub_cons 0 rfl (sub_cons 0 rfl (sub_cons 1 rfl (sub_cons 2 rfl (sub_cons 1 rfl (sub_cons 1 rfl (sub_cons 5 rfl (sub_cons 6 rfl (sub_cons 7 rfl (sub_cons 7 rfl (sub_cons 9 rfl (sub_cons 10 rfl (sub_cons 9 rfl (sub_cons 12 rfl (sub_tail (sub_tail (sub_tail (sub_tail (sub_tail (sub_tail (sub_tail (sub_tail (sub_tail (sub_tail (sub_tail (sub_tail (sub_tail (sub_self)))))))))))))))))))))))))))))), H⟩
        ·obtain ⟨f4, ha, hS, H⟩ := hI
         rw [n1] at H
         (try dsimp only at H)
         refine EW.at ?_ a ha
         clear ha a
         refine EW.condP' (o := (.tmp 92)) (x := Cd8.r.r.r.r.r.r.r.l.r.l.l.r.r.l.l.r.r.r.r.l) (y := Cd8.r.r.r.r.r.r.r.l.r.l.l.r.r.l.l.r.r.r.r.r) (f4) (by kernel_rfl) (by kernel_rfl) (fun j1 => ?_) (fun j1 => ?_)
         ·rw [if_pos j1] at H
          refine EW.seq (x := Cd8.r.r.r.r.r.r.r.l.r.l.l.r.r.l.l.r.r.r.r.l.l) (y := Cd8.r.r.r.r.r.r.r.l.r.l.l.r.r.l.l.r.r.r.r.l.r) (by kernel_rfl) ?_
          refine EW.region (id := 15) (ops := Cd8.r.r.r.r.r.r.r.l.r.l.l.r.r.l.l.r.r.r.r.l.l.ops) (by kernel_rfl) ?_
          refine EL.quick 1 [10] [(10, .bool (false))] (by kernel_rfl) ?_
          refine EL.done (by kernel_rfl) ?_
          refine EQ.code ?_
          refine EW.ret (by kernel_rfl) ?_
          refine EQ.ret ?_
          refine EQ.ret ?_
          refine EQ.ret ?_
          refine EQ.ret ?_
          refine EQ.ret ?_
          obtain rfl := Option.some.inj H
          exact EQ.leave (.bool (false)) (by kernel_rfl) ⟨_, rfl, rfl, (hS.re [] [0] rfl (sub_tail (sub_tail (sub_tail (sub_tail (sub_tail (sub_tail (sub_tail (sub_tail (sub_tail (sub_tail (sub_tail (sub_tail (sub_self))))))))))))))⟩
         ·rw [if_neg j1] at H
          refine EW.skip (by kernel_rfl) ?_
          refine EQ.pop ?_
          refine EQ.code ?_
          refine EW.region (id := 16) (ops := Cd8.r.r.r.r.r.r.r.l.r.l.l.r.r.r.ops) (by kernel_rfl) ?_
          refine EL.quick 2 [11, 68, 69, 70] [(11, .slice a1 a0.length a2), (68, .slice (some b6) a3.length b4), (69, .int .i64 (a3.length : Int)), (70, .int .i64 (IntKind.i64.wrap (a5 + 1)))] (by kernel_rfl) ?_
          refine EL.done (by kernel_rfl) ?_
          refine EQ.to ?_
          refine EQ.keep [11, 68, 69, 70] [(11, .slice a1 a0.length a2), (68, .slice (some b6) a3.length b4), (69, .int .i64 (a3.length : Int)), (70, .int .i64 (IntKind.i64.wrap (a5 + 1)))] (by kernel_rfl) ?_
          exact fun a ha => ⟨n, Nat.lt_succ_self n, IntKind.i64.wrap (a5 + 1), ha, (hS.re [0] [] rfl (sub_cons 7 rfl (sub_cons 8 rfl (sub_cons 9 rfl (sub_cons 9 rfl (sub_cons 11 rfl (sub_cons 12 rfl (sub_cons 11 rfl (sub_cons 14 rfl (sub_tail (sub_tail (sub_tail (sub_tail (sub_tail (sub_tail (sub_tail (sub_tail (sub_tail (sub_tail (sub_tail (sub_tail (sub_tail (sub_tail (sub_tail (sub_self))))))))))))))))))))))))), H⟩
       ·rw [if_neg f0] at H
        refine EW.exit (id := 0) (by kernel_rfl) ?_
        refine EQ.exitCode ?_
        refine EQ.exitTo ?_
        refine EQ.exitHere ?_
        refine EQ.to ?_
        refine EQ.keep [11] [(11, .slice a1 a0.length a2)] (by kernel_rfl) ?_
        exact fun a ha => ⟨a3, d7, b4, ha, (hS.re [0] [] rfl (sub_cons 0 rfl (sub_cons 1 rfl (sub_cons 2 rfl (sub_cons 2 rfl (sub_cons 4 rfl (sub_cons 5 rfl (sub_cons 4 rfl (sub_cons 7 rfl (sub_tail (sub_tail (sub_tail (sub_tail (sub_tail (sub_tail (sub_tail (sub_tail (sub_self)))))))))))))))))), H⟩
    ·obtain ⟨e3, f6, f8, ha, hS, H⟩ := hI
     rw [n0] at H
     (try dsimp only at H)
     refine EW.at ?_ a ha
     clear ha a
     refine EW.seq (x := Cd8.r.r.r.r.r.r.r.r.l) (y := Cd8.r.r.r.r.r.r.r.r.r) (by kernel_rfl) ?_
     refine EW.region (id := 17) (ops := Cd8.r.r.r.r.r.r.r.r.l.ops) (by kernel_rfl) ?_
     refine EL.quick 1 [11, 95] [(11, .slice a1 a0.length a2), (95, .slice a1 a0.length a2)] (by kernel_rfl) ?_
     have hS : St B _ (Ass.own 75 (Kd.slice (Kd.int .u8)) f6 f8 e3 :: os) (Ro.sl kS69 a1 a2 a0 :: Ro.sl (Kd.int .u8) (some a9) a7 b3 :: Ro.sl (Kd.int .u8) a8 a6 a4 :: Ro.sl kS69 a1 a2 a0 :: Ro.sl kS69 a1 a2 a0 :: Ro.sl kS111 A16 C17 l15 :: Ro.sl (Kd.int .u8) A13 C14 l12 :: Ro.sl kS111 A16 C17 l15 :: Ro.sl (Kd.int .u8) A21 C22 l20 :: rs) := hS.re [] [] rfl (sub_cons 2 rfl sub_self)
     obtain ⟨e1, m6, H⟩ := b1_out H
     refine EL.of (EO.callD 33 [.slice a1 a0.length a2] _ 96 (by kernel_rfl) (by kernel_rfl) (by kernel_rfl) (audit_Put.calls m6 hS) ?_)
     rintro v w ⟨f7, f9, rfl, hS⟩
     have hS := St.fr hS 0 rfl
     have hS : St B _ (Ass.own 75 (Kd.slice (Kd.int .u8)) f6 f8 e3 :: os) (Ro.sl (Kd.int .u8) f7 f9 e1 :: Ro.sl (Kd.int .u8) f7 f9 e1 :: Ro.sl kS69 a1 a2 a0 :: Ro.sl (Kd.int .u8) (some a9) a7 b3 :: Ro.sl (Kd.int .u8) a8 a6 a4 :: Ro.sl kS69 a1 a2 a0 :: Ro.sl kS69 a1 a2 a0 :: Ro.sl kS111 A16 C17 l15 :: Ro.sl (Kd.int .u8) A13 C14 l12 :: Ro.sl kS111 A16 C17 l15 :: Ro.sl (Kd.int .u8) A21 C22 l20 :: rs) := hS.re [] [] rfl (sub_cons 0 rfl sub_self)
     obtain ⟨c6, e2, m7, H⟩ := b2_out H
     refine EL.of (EO.callD 39 [.slice f7 e1.length f9] _ 97 (by kernel_rfl) (by kernel_rfl) (by kernel_rfl) (audit_Read.calls m7 hS) ?_)
     rintro v w ⟨c7, c8, rfl, hS⟩
     refine EL.quick 5 [11, 20, 21] [(11, .slice a1 a0.length a2), (20, .slice c7 c6.length c8), (21, .int .i64 e2)] (by kernel_rfl) ?_
     refine EL.done (by kernel_rfl) ?_
     refine EQ.code ?_
     refine EW.seq (x := Cd8.r.r.r.r.r.r.r.r.r.l) (y := Cd8.r.r.r.r.r.r.r.r.r.r) (by kernel_rfl) ?_
     refine EW.region (id := 18) (ops := Cd8.r.r.r.r.r.r.r.r.r.l.ops) (by kernel_rfl) ?_
     refine EL.quick 3 [11, 20, 102] [(11, .slice a1 a0.length a2), (20, .slice c7 c6.length c8), (102, .bool (decide (e2 = 0)))] (by kernel_rfl) ?_
     by_cases g9 : e2 = 0
     ·rw [if_pos g9] at H
      refine EL.keep [11, 20, 102] [(11, .slice a1 a0.length a2), (20, .slice c7 c6.length c8), (102, .bool (decide (e2 = 0)))] (by kernel_rfl) ?_
      refine EL.as' [(11, .slice a1 a0.length a2), (20, .slice c7 c6.length c8), (102, .bool (true))] (by simp only [dec_t g9, Bool.not_true, Bool.not_false]) ?_
      refine EL.quick 2 [102, 103, 104] [(102, .bool (true)), (103, .slice a1 a0.length a2), (104, .slice c7 c6.length c8)] (by kernel_rfl) ?_
      have hS : St B _ (Ass.own 75 (Kd.slice (Kd.int .u8)) f6 f8 e3 :: os) (Ro.sl kS69 a1 a2 a0 :: Ro.sl kS69 c7 c8 c6 :: Ro.sl kS69 c7 c8 c6 :: Ro.sl (Kd.int .u8) f7 f9 e1 :: Ro.sl (Kd.int .u8) f7 f9 e1 :: Ro.sl kS69 a1 a2 a0 :: Ro.sl (Kd.int .u8) (some a9) a7 b3 :: Ro.sl (Kd.int .u8) a8 a6 a4 :: Ro.sl kS69 a1 a2 a0 :: Ro.sl kS69 a1 a2 a0 :: Ro.sl kS111 A16 C17 l15 :: Ro.sl (Kd.int .u8) A13 C14 l12 :: Ro.sl kS111 A16 C17 l15 :: Ro.sl (Kd.int .u8) A21 C22 l20 :: rs) := hS.re [] [] rfl (sub_cons 3 rfl (sub_cons 0 rfl sub_self))
      obtain ⟨i1, m8, H⟩ := b1_out H
      refine EL.of (EO.callD 35 [.slice a1 a0.length a2, .slice c7 c6.length c8] _ 105 (by kernel_rfl) (by kernel_rfl) (by kernel_rfl) (confidantref21_SameAudit.calls m8 hS) ?_)
      rintro v w ⟨rfl, hS⟩
      refine EL.quick 2 [10] [(10, .bool (i1))] (by kernel_rfl) ?_
      refine EL.done (by kernel_rfl) ?_
      refine EQ.code ?_
      refine EW.ret (by kernel_rfl) ?_
      obtain rfl := Option.some.inj H
      exact EQ.leave (.bool (i1)) (by kernel_rfl) ⟨_, rfl, rfl, (hS.re [] [0] rfl (sub_tail (sub_tail (sub_tail (sub_tail (sub_tail (sub_tail (sub_tail (sub_tail (sub_tail (sub_tail (sub_tail (sub_self)))))))))))))⟩
     ·rw [if_neg g9] at H
      refine EL.keep [11, 20, 102] [(11, .slice a1 a0.length a2), (20, .slice c7 c6.length c8), (102, .bool (decide (e2 = 0)))] (by kernel_rfl) ?_
      refine EL.as' [(11, .slice a1 a0.length a2), (20, .slice c7 c6.length c8), (102, .bool (false))] (by simp only [dec_f g9, Bool.not_true, Bool.not_false]) ?_
      refine EL.quick 5 [10] [(10, .bool (false))] (by kernel_rfl) ?_
      refine EL.done (by kernel_rfl) ?_
      refine EQ.code ?_
      refine EW.ret (by kernel_rfl) ?_
      obtain rfl := Option.some.inj H
      exact EQ.leave (.bool (false)) (by kernel_rfl) ⟨_, rfl, rfl, (hS.re [] [0] rfl (sub_tail (sub_tail (sub_tail (sub_tail (sub_tail (sub_tail (sub_tail (sub_tail (sub_tail (sub_self)))))))))))⟩
 ·rw [if_neg i7] at H
  refine EW.seq (x := Cd8.r.l.r.l.l) (y := Cd8.r.l.r.l.r) (by kernel_rfl) ?_
  refine EW.region (id := 2) (ops := Cd8.r.l.r.l.l.ops) (by kernel_rfl) ?_
  refine EL.quick 1 [10] [(10, .bool (false))] (by kernel_rfl) ?_
  refine EL.done (by kernel_rfl) ?_
  refine EQ.code ?_
  refine EW.ret (by kernel_rfl) ?_
  refine EQ.ret ?_
  obtain rfl := Option.some.inj H
  exact EQ.leave (.bool (false)) (by kernel_rfl) ⟨_, rfl, rfl, (hS.re [] [] rfl (sub_self))⟩

def okS111 (s : S111) : Prop := ((Lit.int .u8 s.f0).wf = true) ∧ ((Lit.int .u8 s.f1).wf = true) ∧ ((Lit.int .u8 s.f2).wf = true) ∧ ((Lit.int .u8 s.f3).wf = true) ∧ True
theorem oS111 : Opens Try.prog 111 kS111 okS111 := Opens.array (fun s : S111 => (s.f0, s.f1, s.f2, s.f3, ())) (fun a => ⟨a.1, a.2.1, a.2.2.1, a.2.2.2.1⟩) (fun _ => rfl) Try.underlying111 (by kernel_rfl) (OpensA.cons (Opens.int Try.underlying5) (OpensA.cons (Opens.int Try.underlying5) (OpensA.cons (Opens.int Try.underlying5) (OpensA.cons (Opens.int Try.underlying5) OpensA.nil rfl) rfl) rfl) rfl) (by kernel_rfl)
def confidantlaw22_AuditReads.Pure : Prop := ∀ (l12 : List Int) (l15 : List S111) (a18 : Int) (a19 : Int) (l20 : List Int), l12.length * 1 ≤ 140737488351232 → (∀ x ∈ l12, (Lit.int .u8 x).wf = true) → l15.length * 4 ≤ 140737488351232 → (∀ x ∈ l15, okS111 x) → (Lit.int .u16 a18).wf = true → (Lit.int .u8 a19).wf = true → l20.length * 1 ≤ 140737488351232 → (∀ x ∈ l20, (Lit.int .u8 x).wf = true) → ∃ K, confidantlaw22_AuditReads.f K l12 l15 a18 a19 l20 = some true

end Go.Proofs.Ytipaaapbapijhaa.G
