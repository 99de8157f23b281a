import Derived.Test.YtlcnkngpankkpaaProg
import Derived.Test.YtlcnkngpankkpaaFwShort
import Derived.Test.YtlcnkngpankkpaaFwOpen
import Derived.Test.YtlcnkngpankkpaaG0
import Derived.Test.YtlcnkngpankkpaaG4
import Derived.Test.YtlcnkngpankkpaaG6
namespace Go.Proofs.Ytlcnkngpankkpaa.G
open Go Go.Fw Go.RowKit Go.Proofs
set_option linter.unusedVariables false
set_option linter.unusedSimpArgs false

/-! ### confidant/confidantref9.Div: function 83 -/
def confidantref9_Div.f (K : Nat) (a1 : Int) (a0 : Int) : Option (Int × Bool) := if a0 = 0 then (some (0, false)) else (if (IntKind.i64.wrap a0) = 0 then none else (lt (IntKind.i32.wrap (IntKind.i64.wrap (Int.tdiv (IntKind.i64.wrap a1) (IntKind.i64.wrap a0)))) fun a2 => (some (a2, true))))
set_option maxRecDepth 100000 in
theorem confidantref9_Div.calls {K : Nat} {a1 : Int} {a0 : Int} {a4 : Int} {a5 : Bool} {B w : World} {os : List Ass} {rs : List Ro} (H : confidantref9_Div.f K a1 a0 = some (a4, a5)) (hS : St B w (os) (rs)) :
  Calls Try.prog 83 [ib a1, ib a0].toArray w (fun en w' => ∃ v, en = .returned v ∧ v = .tuple #[ib a4, .bool (a5)] ∧ St B w' (os) (rs)) := by
 unfold confidantref9_Div.f at H
 refine calls_of_EW (args := [ib a1, ib a0]) (c := Cd83) 14 Try.func83 (by kernel_rfl) (by kernel_rfl) (by kernel_rfl) ?_
 refine EW.sq (by kernel_rfl) ?_
 refine EW.rg (by kernel_rfl) ?_
 refine EL.quick 2 [0, 1] [(0, ib a1), (1, ib a0)] (by kernel_rfl) ?_
 refine EL.done (by kernel_rfl) ?_
 refine EQ.code ?_
 refine EW.sq (by kernel_rfl) ?_
 refine EW.sq (by kernel_rfl) ?_
 refine EW.rg (by kernel_rfl) ?_
 refine EL.quick 2 [0, 1, 7] [(0, ib a1), (1, ib a0), (7, .bool (decide (a0 = 0)))] (by kernel_rfl) ?_
 refine EL.done (by kernel_rfl) ?_
 refine EQ.code ?_
 refine EW.cdP (a0 = 0) (by kernel_rfl) (by kernel_rfl) (fun a3 => ?_) (fun a3 => ?_)
 ·rw [if_pos a3] at H
  refine EW.sq (by kernel_rfl) ?_
  refine EW.rg (by kernel_rfl) ?_
  refine EL.quick 2 [4, 5] [(4, ib 0), (5, .bool (false))] (by kernel_rfl) ?_
  refine EL.done (by kernel_rfl) ?_
  refine EQ.code ?_
  refine EW.ret (by kernel_rfl) ?_
  refine EQ.ret ?_
  simp only [Option.some.injEq, Prod.mk.injEq] at H
  obtain ⟨rfl, rfl⟩ := H
  exact EQ.leave (.tuple #[ib 0, .bool (false)]) (by kernel_rfl) ⟨_, rfl, rfl, (hS.re [] [] rfl (sub_self))⟩
 rw [if_neg a3] at H
 refine EW.skip (by kernel_rfl) ?_
 refine EQ.code ?_
 refine EW.sq (by kernel_rfl) ?_
 refine EW.rg (by kernel_rfl) ?_
 refine EL.quick 4 [9, 11] [(9, ia (IntKind.i64.wrap a1)), (11, ia (IntKind.i64.wrap a0))] (by kernel_rfl) ?_
 obtain ⟨a6, H⟩ := ite_out H
 refine EL.of (EO.Y (YO.div .quo .i64 (IntKind.i64.wrap a1) (IntKind.i64.wrap a0) (IntKind.i64.wrap (Int.tdiv (IntKind.i64.wrap a1) (IntKind.i64.wrap a0))) 12 (by kernel_rfl) (by kernel_rfl) (by kernel_rfl) a6 (by first | exact .inl ⟨rfl, rfl⟩ | exact .inr ⟨rfl, rfl⟩)) ?_)
 refine EL.quick 3 [4, 5] [(4, ib (IntKind.i32.wrap (IntKind.i64.wrap (Int.tdiv (IntKind.i64.wrap a1) (IntKind.i64.wrap a0))))), (5, .bool (true))] (by kernel_rfl) ?_
 obtain ⟨a2, a7, H⟩ := lt_out H
 refine EL.keep [4, 5] [(4, ib (IntKind.i32.wrap (IntKind.i64.wrap (Int.tdiv (IntKind.i64.wrap a1) (IntKind.i64.wrap a0))))), (5, .bool (true))] (by kernel_rfl) ?_
 refine EL.as' [(4, ib a2), (5, .bool (true))] (by subst a7; rfl) ?_
 refine EL.done (by kernel_rfl) ?_
 refine EQ.code ?_
 refine EW.ret (by kernel_rfl) ?_
 simp only [Option.some.injEq, Prod.mk.injEq] at H
 obtain ⟨rfl, rfl⟩ := H
 exact EQ.leave (.tuple #[ib a2, .bool (true)]) (by kernel_rfl) ⟨_, rfl, rfl, (hS.re [] [] rfl (sub_self))⟩

/-! ### confidant/confidantref9.two: function 57 -/
def confidantref9_two.f (K : Nat) (a2 : Int) (a0 : Int) (a1 : Int) : Option (Int × Bool) := if a2 = 4 then (some (IntKind.i32.wrap (a0 + a1), true)) else (if a2 = 5 then (some (IntKind.i32.wrap (a0 - a1), true)) else (if a2 = 6 then (some (IntKind.i32.wrap (a0 * a1), true)) else (if a2 = 8 then (b1 (confidantref9_Truth.f K (decide (a0 < a1))) fun (a3 : Int) => (some (a3, true))) else (if a2 = 9 then (b1 (confidantref9_Truth.f K (decide (a0 = a1))) fun (a4 : Int) => (some (a4, true))) else (b2 (confidantref9_Div.f K a0 a1) fun (a5 : Int) (a6 : Bool) => (some (a5, a6)))))))
set_option maxRecDepth 100000 in
theorem confidantref9_two.calls {K : Nat} {a2 : Int} {a0 : Int} {a1 : Int} {b4 : Int} {b5 : Bool} {B w : World} {os : List Ass} {rs : List Ro} (H : confidantref9_two.f K a2 a0 a1 = some (b4, b5)) (hS : St B w (os) (rs)) :
  Calls Try.prog 57 [ia a2, ib a0, ib a1].toArray w (fun en w' => ∃ v, en = .returned v ∧ v = .tuple #[ib b4, .bool (b5)] ∧ St B w' (os) (rs)) := by
 unfold confidantref9_two.f at H
 refine calls_of_EW (args := [ia a2, ib a0, ib a1]) (c := Cd57) 41 Try.func57 (by kernel_rfl) (by kernel_rfl) (by kernel_rfl) ?_
 refine EW.sq (by kernel_rfl) ?_
 refine EW.rg (by kernel_rfl) ?_
 refine EL.quick 2 [0, 1, 2] [(0, ia a2), (1, ib a0), (2, ib a1)] (by kernel_rfl) ?_
 refine EL.done (by kernel_rfl) ?_
 refine EQ.code ?_
 refine EW.sq (by kernel_rfl) ?_
 refine EW.sq (by kernel_rfl) ?_
 refine EW.rg (by kernel_rfl) ?_
 refine EL.quick 1 [1, 2, 8] [(1, ib a0), (2, ib a1), (8, ia a2)] (by kernel_rfl) ?_
 refine EL.done (by kernel_rfl) ?_
 refine EQ.code ?_
 refine EW.bl 0 (by kernel_rfl) ?_
 refine EW.sq (by kernel_rfl) ?_
 refine EW.rg (by kernel_rfl) ?_
 refine EL.quick 2 [1, 2, 8, 9] [(1, ib a0), (2, ib a1), (8, ia a2), (9, .bool (decide (a2 = 4)))] (by kernel_rfl) ?_
 refine EL.done (by kernel_rfl) ?_
 refine EQ.code ?_
 refine EW.cdP (a2 = 4) (by kernel_rfl) (by kernel_rfl) (fun a7 => ?_) (fun a7 => ?_)
 ·rw [if_pos a7] at H
  refine EW.sq (by kernel_rfl) ?_
  refine EW.rg (by kernel_rfl) ?_
  refine EL.quick 5 [6, 7] [(6, ib (IntKind.i32.wrap (a0 + a1))), (7, .bool (true))] (by kernel_rfl) ?_
  refine EL.done (by kernel_rfl) ?_
  refine EQ.code ?_
  refine EW.ret (by kernel_rfl) ?_
  refine EQ.ret ?_
  refine EQ.ret ?_
  simp only [Option.some.injEq, Prod.mk.injEq] at H
  obtain ⟨rfl, rfl⟩ := H
  exact EQ.leave (.tuple #[ib (IntKind.i32.wrap (a0 + a1)), .bool (true)]) (by kernel_rfl) ⟨_, rfl, rfl, (hS.re [] [] rfl (sub_self))⟩
 rw [if_neg a7] at H
 refine EW.sq (by kernel_rfl) ?_
 refine EW.rg (by kernel_rfl) ?_
 refine EL.quick 2 [1, 2, 8, 14] [(1, ib a0), (2, ib a1), (8, ia a2), (14, .bool (decide (a2 = 5)))] (by kernel_rfl) ?_
 refine EL.done (by kernel_rfl) ?_
 refine EQ.code ?_
 refine EW.cdP (a2 = 5) (by kernel_rfl) (by kernel_rfl) (fun a8 => ?_) (fun a8 => ?_)
 ·rw [if_pos a8] at H
  refine EW.sq (by kernel_rfl) ?_
  refine EW.rg (by kernel_rfl) ?_
  refine EL.quick 5 [6, 7] [(6, ib (IntKind.i32.wrap (a0 - a1))), (7, .bool (true))] (by kernel_rfl) ?_
  refine EL.done (by kernel_rfl) ?_
  refine EQ.code ?_
  refine EW.ret (by kernel_rfl) ?_
  refine EQ.ret ?_
  refine EQ.ret ?_
  simp only [Option.some.injEq, Prod.mk.injEq] at H
  obtain ⟨rfl, rfl⟩ := H
  exact EQ.leave (.tuple #[ib (IntKind.i32.wrap (a0 - a1)), .bool (true)]) (by kernel_rfl) ⟨_, rfl, rfl, (hS.re [] [] rfl (sub_self))⟩
 rw [if_neg a8] at H
 refine EW.sq (by kernel_rfl) ?_
 refine EW.rg (by kernel_rfl) ?_
 refine EL.quick 2 [1, 2, 8, 19] [(1, ib a0), (2, ib a1), (8, ia a2), (19, .bool (decide (a2 = 6)))] (by kernel_rfl) ?_
 refine EL.done (by kernel_rfl) ?_
 refine EQ.code ?_
 refine EW.cdP (a2 = 6) (by kernel_rfl) (by kernel_rfl) (fun a9 => ?_) (fun a9 => ?_)
 ·rw [if_pos a9] at H
  refine EW.sq (by kernel_rfl) ?_
  refine EW.rg (by kernel_rfl) ?_
  refine EL.quick 5 [6, 7] [(6, ib (IntKind.i32.wrap (a0 * a1))), (7, .bool (true))] (by kernel_rfl) ?_
  refine EL.done (by kernel_rfl) ?_
  refine EQ.code ?_
  refine EW.ret (by kernel_rfl) ?_
  refine EQ.ret ?_
  refine EQ.ret ?_
  simp only [Option.some.injEq, Prod.mk.injEq] at H
  obtain ⟨rfl, rfl⟩ := H
  exact EQ.leave (.tuple #[ib (IntKind.i32.wrap (a0 * a1)), .bool (true)]) (by kernel_rfl) ⟨_, rfl, rfl, (hS.re [] [] rfl (sub_self))⟩
 rw [if_neg a9] at H
 refine EW.sq (by kernel_rfl) ?_
 refine EW.rg (by kernel_rfl) ?_
 refine EL.quick 2 [1, 2, 8, 24] [(1, ib a0), (2, ib a1), (8, ia a2), (24, .bool (decide (a2 = 8)))] (by kernel_rfl) ?_
 refine EL.done (by kernel_rfl) ?_
 refine EQ.code ?_
 refine EW.cdP (a2 = 8) (by kernel_rfl) (by kernel_rfl) (fun b0 => ?_) (fun b0 => ?_)
 ·rw [if_pos b0] at H
  refine EW.sq (by kernel_rfl) ?_
  refine EW.rg (by kernel_rfl) ?_
  refine EL.quick 3 [28] [(28, .bool (decide (a0 < a1)))] (by kernel_rfl) ?_
  obtain ⟨a3, b6, H⟩ := b1_out H
  have hq := confidantref9_Truth.calls b6 hS
  refine EL.of (EO.callD 38 [.bool (decide (a0 < a1))] _ 29 (by kernel_rfl) (by kernel_rfl) (by kernel_rfl) hq ?_)
  rintro v w ⟨rfl, hS⟩
  refine EL.quick 2 [6, 7] [(6, ib a3), (7, .bool (true))] (by kernel_rfl) ?_
  refine EL.done (by kernel_rfl) ?_
  refine EQ.code ?_
  refine EW.ret (by kernel_rfl) ?_
  refine EQ.ret ?_
  refine EQ.ret ?_
  simp only [Option.some.injEq, Prod.mk.injEq] at H
  obtain ⟨rfl, rfl⟩ := H
  exact EQ.leave (.tuple #[ib a3, .bool (true)]) (by kernel_rfl) ⟨_, rfl, rfl, (hS.re [] [] rfl (sub_self))⟩
 rw [if_neg b0] at H
 refine EW.sq (by kernel_rfl) ?_
 refine EW.rg (by kernel_rfl) ?_
 refine EL.quick 2 [1, 2, 30] [(1, ib a0), (2, ib a1), (30, .bool (decide (a2 = 9)))] (by kernel_rfl) ?_
 refine EL.done (by kernel_rfl) ?_
 refine EQ.code ?_
 refine EW.cdP (a2 = 9) (by kernel_rfl) (by kernel_rfl) (fun b3 => ?_) (fun b3 => ?_)
 ·rw [if_pos b3] at H
  refine EW.sq (by kernel_rfl) ?_
  refine EW.rg (by kernel_rfl) ?_
  refine EL.quick 3 [34] [(34, .bool (decide (a0 = a1)))] (by kernel_rfl) ?_
  obtain ⟨a4, b7, H⟩ := b1_out H
  have hq := confidantref9_Truth.calls b7 hS
  refine EL.of (EO.callD 38 [.bool (decide (a0 = a1))] _ 35 (by kernel_rfl) (by kernel_rfl) (by kernel_rfl) hq ?_)
  rintro v w ⟨rfl, hS⟩
  refine EL.quick 2 [6, 7] [(6, ib a4), (7, .bool (true))] (by kernel_rfl) ?_
  refine EL.done (by kernel_rfl) ?_
  refine EQ.code ?_
  refine EW.ret (by kernel_rfl) ?_
  refine EQ.ret ?_
  refine EQ.ret ?_
  simp only [Option.some.injEq, Prod.mk.injEq] at H
  obtain ⟨rfl, rfl⟩ := H
  exact EQ.leave (.tuple #[ib a4, .bool (true)]) (by kernel_rfl) ⟨_, rfl, rfl, (hS.re [] [] rfl (sub_self))⟩
 rw [if_neg b3] at H
 refine EW.skip (by kernel_rfl) ?_
 refine EQ.pop ?_
 refine EQ.code ?_
 refine EW.sq (by kernel_rfl) ?_
 refine EW.rg (by kernel_rfl) ?_
 refine EL.quick 2 [36, 37] [(36, ib a0), (37, ib a1)] (by kernel_rfl) ?_
 obtain ⟨a5, a6, b8, H⟩ := b2_out H
 have hq := confidantref9_Div.calls b8 hS
 refine EL.of (EO.callD 83 [ib a0, ib a1] _ 38 (by kernel_rfl) (by kernel_rfl) (by kernel_rfl) hq ?_)
 rintro v w ⟨rfl, hS⟩
 refine EL.quick 4 [6, 7] [(6, ib a5), (7, .bool (a6))] (by kernel_rfl) ?_
 refine EL.done (by kernel_rfl) ?_
 refine EQ.code ?_
 refine EW.ret (by kernel_rfl) ?_
 simp only [Option.some.injEq, Prod.mk.injEq] at H
 obtain ⟨rfl, rfl⟩ := H
 exact EQ.leave (.tuple #[ib a5, .bool (a6)]) (by kernel_rfl) ⟨_, rfl, rfl, (hS.re [] [] rfl (sub_self))⟩

/-! ### confidant/confidantref9.Step: function 29 -/
def confidantref9_Step.f (K : Nat) (a0 : S58) (b6 : List (List S32)) : Option (S63 × S58) := b3 (confidantref9_At.f K a0 b6) fun (a7 : Int) (a8 : Int) (m5 : Bool) => (lt (fun (t1 : Bool) => (if t1 = true then (b2 (confidantref9_failed.f K a0 24) fun (m6 : S63) (e4 : S58) => (some (m6, e4))) else (b2 (confidantref9_asks.f K a7) fun (q9 : Int) (u6 : Bool) => (if u6 = true then (if (a0.f3.length : Int) < q9 then (b2 (confidantref9_failed.f K a0 24) fun (m7 : S63) (e5 : S58) => (some (m7, e5))) else (some (({zS63 with f0 := 4} : S63), a0))) else (b1 (confidantref9_pops.f K a7) fun (y0 : Int) => (if (a0.f3.length : Int) < y0 then (b2 (confidantref9_failed.f K a0 24) fun (m8 : S63) (e6 : S58) => (some (m8, e6))) else (lt (fun (a9 : Int) => (lt (fun (c3 : Int) => (if a7 = 1 then (lt ([a8] : List Int) fun t8 => (b2 (confidantref9_went.f K a0 0 t8) fun (m9 : S63) (e7 : S58) => (some (m9, e7)))) else (if a7 = 2 then (b2 (confidantref9_went.f K a0 1 ([] : List Int)) fun (n0 : S63) (e8 : S58) => (some (n0, e8))) else (if a7 = 3 then (lt ([a9] : List Int) fun t9 => (b2 (confidantref9_went.f K a0 0 t9) fun (n1 : S63) (e9 : S58) => (some (n1, e9)))) else (lt (fun (t2 : Bool) => (if t2 = true then (b1 (confidantref9_pops.f K a7) fun (d6 : Int) => (b2 (confidantref9_went.f K a0 d6 ([] : List Int)) fun (b5 : S63) (b0 : S58) => (lt (fun (d1 : Int) => (some (b5, ({b0 with f2 := d1} : S58)))) fun x6 => (lt (fun (t3 : Bool) => (if t3 = true then (x6 (IntKind.i64.wrap a8)) else (x6 b0.f2))) fun x7 => (if a7 = 10 then (x7 true) else (x7 (decide (a9 = 0)))))))) else (lt (fun (t4 : Bool) => (if t4 = true then (lt (fun (t5 : Bool) => (if t5 = true then (b2 (confidantref9_failed.f K a0 24) fun (n2 : S63) (f6 : S58) => (some (n2, f6))) else (if a7 = 12 then (if a8 = 0 then (lt ([a0.f4.f0] : List Int) fun u0 => (b2 (confidantref9_went.f K a0 0 u0) fun (n3 : S63) (f7 : S58) => (some (n3, f7)))) else (if a8 = 1 then (lt ([a0.f4.f1] : List Int) fun u1 => (b2 (confidantref9_went.f K a0 0 u1) fun (n4 : S63) (f8 : S58) => (some (n4, f8)))) else (if a8 = 2 then (lt ([a0.f4.f2] : List Int) fun u2 => (b2 (confidantref9_went.f K a0 0 u2) fun (n5 : S63) (f9 : S58) => (some (n5, f9)))) else (if a8 = 3 then (lt ([a0.f4.f3] : List Int) fun u3 => (b2 (confidantref9_went.f K a0 0 u3) fun (n6 : S63) (g0 : S58) => (some (n6, g0)))) else (none))))) else (b2 (confidantref9_went.f K a0 1 ([] : List Int)) fun (c8 : S63) (b4 : S58) => (lt (fun (d2 : Int) (d3 : Int) (d4 : Int) (d5 : Int) => (some (c8, ({b4 with f4 := {b4.f4 with f0 := d2, f1 := d3, f2 := d4, f3 := d5}} : S58)))) fun q8 => (if a8 = 0 then (q8 a9 b4.f4.f1 b4.f4.f2 b4.f4.f3) else (if a8 = 1 then (q8 b4.f4.f0 a9 b4.f4.f2 b4.f4.f3) else (if a8 = 2 then (q8 b4.f4.f0 b4.f4.f1 a9 b4.f4.f3) else (if a8 = 3 then (q8 b4.f4.f0 b4.f4.f1 b4.f4.f2 a9) else (none)))))))))) fun x9 => (if a8 < 0 then (x9 true) else (x9 (decide (a8 ≥ 4))))) else (if a7 = 14 then (lt ([IntKind.i32.wrap a0.f5] : List Int) fun u4 => (b2 (confidantref9_went.f K a0 0 u4) fun (n7 : S63) (g1 : S58) => (some (n7, g1)))) else (if a7 = 25 then (some ((⟨2, a9, 0⟩ : S63), a0)) else (if a7 = 26 then (b2 (confidantref9_failed.f K a0 (IntKind.i64.wrap a8)) fun (n8 : S63) (g2 : S58) => (some (n8, g2))) else (b2 (confidantref9_two.f K a7 c3 a9) fun (n9 : Int) (t0 : Bool) => (if t0 = true then (lt ([n9] : List Int) fun u5 => (b2 (confidantref9_went.f K a0 2 u5) fun (o0 : S63) (g3 : S58) => (some (o0, g3)))) else (b2 (confidantref9_failed.f K a0 32) fun (o1 : S63) (g4 : S58) => (some (o1, g4)))))))))) fun x8 => (if a7 = 12 then (x8 true) else (x8 (decide (a7 = 13))))))) fun x5 => (if a7 = 10 then (x5 true) else (x5 (decide (a7 = 11))))))))) fun x4 => (if (a0.f3.length : Int) > 1 then (if 0 ≤ (IntKind.i64.wrap ((a0.f3.length : Int) - 2)) then (if (IntKind.i64.wrap ((a0.f3.length : Int) - 2)) < (a0.f3.length : Int) then (lt ((a0.f3.getD (IntKind.i64.wrap ((a0.f3.length : Int) - 2)).toNat 0)) fun u8 => (x4 u8)) else none) else none) else (x4 0)))) fun x3 => (if (a0.f3.length : Int) > 0 then (if 0 ≤ (IntKind.i64.wrap ((a0.f3.length : Int) - 1)) then (if (IntKind.i64.wrap ((a0.f3.length : Int) - 1)) < (a0.f3.length : Int) then (lt ((a0.f3.getD (IntKind.i64.wrap ((a0.f3.length : Int) - 1)).toNat 0)) fun u7 => (x3 u7)) else none) else none) else (x3 0))))))))) fun t7 => (if m5 = true then (if a7 < 1 then (t7 true) else (t7 (decide (a7 > 26)))) else (t7 true)))
set_option maxHeartbeats 4000000 in
set_option maxRecDepth 100000 in
theorem confidantref9_Step.calls {K : Nat} {a0 : S58} {b6 : List (List S32)} {a5 : Option Addr} {a3 : Nat} {b7 : Option Addr} {b8 : Nat} {e3 : S63} {d9 : S58} {B w : World} {os : List Ass} {rs : List Ro} (H : confidantref9_Step.f K a0 b6 = some (e3, d9)) (hS : St B w (os) (Ro.sl (Kd.int .i32) a5 a3 a0.f3 :: Ro.sl (Kd.slice kS32) b7 b8 b6 :: rs)) :
  Calls Try.prog 29 [ag (cellsS58 a0 (a5, a3)), sv b7 b8 b6].toArray w (fun en w' => ∃ v, en = .returned v ∧ ∃ B1 : Option Addr, ∃ B2 : Nat, v = .tuple #[ag (cellsS58 d9 (B1, B2)), ag (encS63 e3)] ∧ St B w' (os) (Ro.sl (Kd.int .i32) B1 B2 d9.f3 :: Ro.sl (Kd.int .i32) a5 a3 a0.f3 :: Ro.sl (Kd.slice kS32) b7 b8 b6 :: rs)) := by
 unfold confidantref9_Step.f at H
 refine calls_of_EW (args := [ag (cellsS58 a0 (a5, a3)), sv b7 b8 b6]) (c := Cd29) 218 Try.func29 (by kernel_rfl) (by kernel_rfl) (by kernel_rfl) ?_
 refine EW.sq (by kernel_rfl) ?_
 refine EW.rg (by kernel_rfl) ?_
 refine EL.of (EO.box hS 58 (ag (cellsS58 a0 (a5, a3))) (cellsS58 a0 (a5, a3)) 2 (by kernel_rfl) (by kernel_rfl) (by kernel_rfl) (by first | rfl | kernel_rfl) ?_)
 intro a6 w hS
 refine EL.of (EO.alloc hS 58 (ag (cellsS58 zS58 (none, 0))) (cellsS58 zS58 (none, 0)) 4 (by kernel_rfl) (by kernel_rfl) (by kernel_rfl) (by kernel_rfl) (by first | rfl | kernel_rfl) ?_)
 intro a1 w hS
 refine EL.of (EO.alloc hS 63 (ag (encS63 zS63)) (encS63 zS63) 5 (by kernel_rfl) (by kernel_rfl) (by kernel_rfl) (by kernel_rfl) (by first | rfl | kernel_rfl) ?_)
 intro a2 w hS
 refine EL.done (by kernel_rfl) ?_
 refine EQ.code ?_
 refine EW.sq (by kernel_rfl) ?_
 refine EW.rg (by kernel_rfl) ?_
 refine EL.of (EO.Y (YO.loadBox hS 2 rfl 58 0 12 (ag (cellsS58 a0 (a5, a3))) 20 (by kernel_rfl) (by kernel_rfl) (by kernel_rfl) (by kernel_rfl)) ?_)
 refine EL.quick 1 [2, 4, 5, 20, 21] [(2, pt a6 0), (4, pt a1 0), (5, pt a2 0), (20, ag (cellsS58 a0 (a5, a3))), (21, sv b7 b8 b6)] (by kernel_rfl) ?_
 have hS : St B _ (Ass.box 63 a2 (encS63 zS63) :: Ass.box 58 a1 (cellsS58 zS58 (none, 0)) :: Ass.box 58 a6 (cellsS58 a0 (a5, a3)) :: os) (Ro.sl (Kd.int .i32) a5 a3 a0.f3 :: Ro.sl (Kd.slice kS32) b7 b8 b6 :: rs) := hS.re [] [] rfl (sub_cons 0 rfl (sub_cons 1 rfl (sub_tail (sub_tail (sub_self)))))
 obtain ⟨a7, a8, m5, D1, H⟩ := b3_out H
 have hq := confidantref9_At.calls D1 hS
 refine EL.of (EO.callD 52 [ag (cellsS58 a0 (a5, a3)), sv b7 b8 b6] _ 22 (by kernel_rfl) (by kernel_rfl) (by kernel_rfl) hq ?_)
 rintro v w ⟨rfl, hS⟩
 refine EL.quick 3 [2, 4, 5, 23, 24] [(2, pt a6 0), (4, pt a1 0), (5, pt a2 0), (23, ag [ia a7, ib a8]), (24, .bool (m5))] (by kernel_rfl) ?_
 refine EL.of (EO.alloc hS 32 (ag [ia 0, ib 0]) [ia 0, ib 0] 6 (by kernel_rfl) (by kernel_rfl) (by kernel_rfl) (by kernel_rfl) (by first | rfl | kernel_rfl) ?_)
 intro a4 w hS
 refine EL.of (EO.storeBox (os' := Ass.box 32 a4 [ia a7, ib a8] :: Ass.box 63 a2 (encS63 zS63) :: Ass.box 58 a1 (cellsS58 zS58 (none, 0)) :: Ass.box 58 a6 (cellsS58 a0 (a5, a3)) :: os) hS 0 rfl 32 0 (ag [ia a7, ib a8]) [ia a7, ib a8] (by kernel_rfl) (by kernel_rfl) (by kernel_rfl) (by kernel_rfl) (by kernel_rfl) (by kernel_rfl) rfl rfl ?_)
 intro w hS
 refine EL.quick 1 [2, 4, 5, 6, 7] [(2, pt a6 0), (4, pt a1 0), (5, pt a2 0), (6, pt a4 0), (7, .bool (m5))] (by kernel_rfl) ?_
 refine EL.done (by kernel_rfl) ?_
 refine EQ.code ?_
 refine EW.sq (by kernel_rfl) ?_
 obtain ⟨t7, F1, H⟩ := lt_out H
 refine EW.ct (fun a w => ∃ t1 : Bool, Sat 218 [(2, pt a6 0), (4, pt a1 0), (5, pt a2 0), (6, pt a4 0), (36, .bool (t1))] a ∧ St B w (Ass.box 32 a4 [ia a7, ib a8] :: Ass.box 63 a2 (encS63 zS63) :: Ass.box 58 a1 (cellsS58 zS58 (none, 0)) :: Ass.box 58 a6 (cellsS58 a0 (a5, a3)) :: os) (Ro.sl (Kd.int .i32) a5 a3 a0.f3 :: Ro.sl (Kd.slice kS32) b7 b8 b6 :: rs) ∧ t7 t1 = some (e3, d9)) (by kernel_rfl) ?_ (fun a w hI => ?_)
 ·refine EW.rg (by kernel_rfl) ?_
  refine EL.quick 3 [2, 4, 5, 6, 27] [(2, pt a6 0), (4, pt a1 0), (5, pt a2 0), (6, pt a4 0), (27, .bool (!(m5)))] (by kernel_rfl) ?_
  by_cases v7 : m5 = true
  ·rw [if_pos v7] at H
   refine EL.keep [2, 4, 5, 6, 27] [(2, pt a6 0), (4, pt a1 0), (5, pt a2 0), (6, pt a4 0), (27, .bool (!(m5)))] (by kernel_rfl) ?_
   refine EL.as' [(2, pt a6 0), (4, pt a1 0), (5, pt a2 0), (6, pt a4 0), (27, .bool (false))] (by simp only [cellsS58, encS63, v7, Bool.not_true, Bool.not_false]) ?_
   refine EL.quick 1 [2, 4, 5, 6, 27, 28] [(2, pt a6 0), (4, pt a1 0), (5, pt a2 0), (6, pt a4 0), (27, .bool (false)), (28, pt a4 0)] (by kernel_rfl) ?_
   refine EL.of (EO.Y (YO.loadBox hS 0 rfl 3 0 1 (ia a7) 29 (by kernel_rfl) (by kernel_rfl) (by kernel_rfl) (by kernel_rfl)) ?_)
   refine EL.quick 3 [2, 4, 5, 6, 32] [(2, pt a6 0), (4, pt a1 0), (5, pt a2 0), (6, pt a4 0), (32, .bool (decide (a7 < 1)))] (by kernel_rfl) ?_
   by_cases v8 : a7 < 1
   ·rw [if_pos v8] at H
    refine EL.keep [2, 4, 5, 6, 32] [(2, pt a6 0), (4, pt a1 0), (5, pt a2 0), (6, pt a4 0), (32, .bool (decide (a7 < 1)))] (by kernel_rfl) ?_
    refine EL.as' [(2, pt a6 0), (4, pt a1 0), (5, pt a2 0), (6, pt a4 0), (32, .bool (true))] (by simp only [cellsS58, encS63, dec_t v8, Bool.not_true, Bool.not_false]) ?_
    refine EL.quick 4 [2, 4, 5, 6, 36] [(2, pt a6 0), (4, pt a1 0), (5, pt a2 0), (6, pt a4 0), (36, .bool (true))] (by kernel_rfl) ?_
    refine EL.done (by kernel_rfl) ?_
    refine EQ.to ?_
    refine EQ.keep [2, 4, 5, 6, 36] [(2, pt a6 0), (4, pt a1 0), (5, pt a2 0), (6, pt a4 0), (36, .bool (true))] (by kernel_rfl) ?_
    exact fun a ha => ⟨true, ha, (hS.re [3, 3, 3, 3] [] rfl (sub_cons 0 rfl (sub_cons 1 rfl (sub_tail (sub_tail (sub_self)))))), H⟩
   rw [if_neg v8] at H
   refine EL.keep [2, 4, 5, 6, 32] [(2, pt a6 0), (4, pt a1 0), (5, pt a2 0), (6, pt a4 0), (32, .bool (decide (a7 < 1)))] (by kernel_rfl) ?_
   refine EL.as' [(2, pt a6 0), (4, pt a1 0), (5, pt a2 0), (6, pt a4 0), (32, .bool (false))] (by simp only [cellsS58, encS63, dec_f v8, Bool.not_true, Bool.not_false]) ?_
   refine EL.quick 1 [2, 4, 5, 6, 32, 33] [(2, pt a6 0), (4, pt a1 0), (5, pt a2 0), (6, pt a4 0), (32, .bool (false)), (33, pt a4 0)] (by kernel_rfl) ?_
   refine EL.of (EO.Y (YO.loadBox hS 0 rfl 3 0 1 (ia a7) 34 (by kernel_rfl) (by kernel_rfl) (by kernel_rfl) (by kernel_rfl)) ?_)
   refine EL.quick 2 [2, 4, 5, 6, 36] [(2, pt a6 0), (4, pt a1 0), (5, pt a2 0), (6, pt a4 0), (36, .bool (decide (a7 > 26)))] (by kernel_rfl) ?_
   refine EL.done (by kernel_rfl) ?_
   refine EQ.to ?_
   refine EQ.keep [2, 4, 5, 6, 36] [(2, pt a6 0), (4, pt a1 0), (5, pt a2 0), (6, pt a4 0), (36, .bool (decide (a7 > 26)))] (by kernel_rfl) ?_
   exact fun a ha => ⟨decide (a7 > 26), ha, (hS.re [3, 3, 3, 3] [] rfl (sub_cons 0 rfl (sub_cons 1 rfl (sub_tail (sub_tail (sub_self)))))), H⟩
  rw [if_neg v7] at H
  refine EL.keep [2, 4, 5, 6, 27] [(2, pt a6 0), (4, pt a1 0), (5, pt a2 0), (6, pt a4 0), (27, .bool (!(m5)))] (by kernel_rfl) ?_
  refine EL.as' [(2, pt a6 0), (4, pt a1 0), (5, pt a2 0), (6, pt a4 0), (27, .bool (true))] (by simp only [cellsS58, encS63, (Bool.eq_false_iff.2 v7), Bool.not_true, Bool.not_false]) ?_
  refine EL.quick 9 [2, 4, 5, 6, 36] [(2, pt a6 0), (4, pt a1 0), (5, pt a2 0), (6, pt a4 0), (36, .bool (true))] (by kernel_rfl) ?_
  refine EL.done (by kernel_rfl) ?_
  refine EQ.to ?_
  refine EQ.keep [2, 4, 5, 6, 36] [(2, pt a6 0), (4, pt a1 0), (5, pt a2 0), (6, pt a4 0), (36, .bool (true))] (by kernel_rfl) ?_
  exact fun a ha => ⟨true, ha, (hS.re [3, 3, 3, 3] [] rfl (sub_cons 0 rfl (sub_cons 1 rfl (sub_tail (sub_tail (sub_self)))))), H⟩
 obtain ⟨t1, ha, hS, H⟩ := hI
 rw [F1] at H
 (try dsimp only at H)
 refine EW.at ?_ a ha
 clear ha a
 refine EW.cdP' (t1) (by kernel_rfl) (by kernel_rfl) (fun y1 => ?_) (fun y1 => ?_)
 ·rw [if_pos y1] at H
  refine EW.sq (by kernel_rfl) ?_
  refine EW.rg (by kernel_rfl) ?_
  refine EL.of (EO.Y (YO.loadBox hS 3 rfl 58 0 12 (ag (cellsS58 a0 (a5, a3))) 37 (by kernel_rfl) (by kernel_rfl) (by kernel_rfl) (by kernel_rfl)) ?_)
  have hS : St B _ (Ass.box 32 a4 [ia a7, ib a8] :: Ass.box 63 a2 (encS63 zS63) :: Ass.box 58 a1 (cellsS58 zS58 (none, 0)) :: Ass.box 58 a6 (cellsS58 a0 (a5, a3)) :: os) (Ro.sl (Kd.int .i32) a5 a3 a0.f3 :: Ro.sl (Kd.slice kS32) b7 b8 b6 :: rs) := hS.re [] [] rfl (sub_cons 0 rfl (sub_tail (sub_self)))
  obtain ⟨m6, e4, D2, H⟩ := b2_out H
  have hq := confidantref9_failed.calls D2 hS
  refine EL.of (EO.callD 53 [ag (cellsS58 a0 (a5, a3)), ia 24] _ 38 (by kernel_rfl) (by kernel_rfl) (by kernel_rfl) hq ?_)
  rintro v w ⟨g5, j0, rfl, hS⟩
  refine EL.quick 2 [4, 5, 39, 40] [(4, pt a1 0), (5, pt a2 0), (39, ag (cellsS58 e4 (g5, j0))), (40, ag (encS63 m6))] (by kernel_rfl) ?_
  refine EL.of (EO.storeBox (os' := Ass.box 32 a4 [ia a7, ib a8] :: Ass.box 63 a2 (encS63 zS63) :: Ass.box 58 a1 (cellsS58 e4 (g5, j0)) :: Ass.box 58 a6 (cellsS58 a0 (a5, a3)) :: os) hS 2 rfl 58 0 (ag (cellsS58 e4 (g5, j0))) (cellsS58 e4 (g5, j0)) (by kernel_rfl) (by kernel_rfl) (by kernel_rfl) (by kernel_rfl) (by kernel_rfl) (by kernel_rfl) rfl rfl ?_)
  intro w hS
  refine EL.of (EO.storeBox (os' := Ass.box 32 a4 [ia a7, ib a8] :: Ass.box 63 a2 (encS63 m6) :: Ass.box 58 a1 (cellsS58 e4 (g5, j0)) :: Ass.box 58 a6 (cellsS58 a0 (a5, a3)) :: os) hS 1 rfl 63 0 (ag (encS63 m6)) (encS63 m6) (by kernel_rfl) (by kernel_rfl) (by kernel_rfl) (by kernel_rfl) (by kernel_rfl) (by kernel_rfl) rfl rfl ?_)
  intro w hS
  refine EL.done (by kernel_rfl) ?_
  refine EQ.code ?_
  refine EW.ret (by kernel_rfl) ?_
  refine EQ.ret ?_
  simp only [cellsS58, encS63, Option.some.injEq, Prod.mk.injEq] at H
  obtain ⟨rfl, rfl⟩ := H
  exact EQ.leave2 hS (.cell 4 58) (.cell 5 63) (ag (cellsS58 e4 (g5, j0))) (ag (encS63 m6)) (by kernel_rfl) ⟨2, 58, a1, (cellsS58 e4 (g5, j0)), 0, 12, rfl, (by kernel_rfl), (by kernel_rfl)⟩ ⟨1, 63, a2, (encS63 m6), 0, 3, rfl, (by kernel_rfl), (by kernel_rfl)⟩ ⟨_, rfl, g5, j0, rfl, (hS.re [] [0, 0, 0, 0] rfl (sub_cons 0 rfl (sub_tail (sub_self))))⟩
 rw [if_neg y1] at H
 refine EW.skip (by kernel_rfl) ?_
 refine EQ.code ?_
 refine EW.sq (by kernel_rfl) ?_
 refine EW.rg (by kernel_rfl) ?_
 refine EL.quick 1 [2, 4, 5, 6, 41] [(2, pt a6 0), (4, pt a1 0), (5, pt a2 0), (6, pt a4 0), (41, pt a6 3)] (by kernel_rfl) ?_
 refine EL.of (EO.Y (YO.loadBox hS 3 rfl 54 3 1 (sv a5 a3 a0.f3) 42 (by kernel_rfl) (by kernel_rfl) (by kernel_rfl) (by kernel_rfl)) ?_)
 refine EL.quick 2 [2, 4, 5, 6, 8] [(2, pt a6 0), (4, pt a1 0), (5, pt a2 0), (6, pt a4 0), (8, ia (a0.f3.length : Int))] (by kernel_rfl) ?_
 refine EL.done (by kernel_rfl) ?_
 refine EQ.code ?_
 refine EW.sq (by kernel_rfl) ?_
 refine EW.sq (by kernel_rfl) ?_
 refine EW.rg (by kernel_rfl) ?_
 refine EL.quick 1 [2, 4, 5, 6, 8, 45] [(2, pt a6 0), (4, pt a1 0), (5, pt a2 0), (6, pt a4 0), (8, ia (a0.f3.length : Int)), (45, pt a4 0)] (by kernel_rfl) ?_
 refine EL.of (EO.Y (YO.loadBox hS 0 rfl 3 0 1 (ia a7) 46 (by kernel_rfl) (by kernel_rfl) (by kernel_rfl) (by kernel_rfl)) ?_)
 obtain ⟨q9, u6, D3, H⟩ := b2_out H
 have hq := confidantref9_asks.calls D3 hS
 refine EL.of (EO.callD 54 [ia a7] _ 47 (by kernel_rfl) (by kernel_rfl) (by kernel_rfl) hq ?_)
 rintro v w ⟨rfl, hS⟩
 refine EL.quick 5 [2, 4, 5, 6, 8, 9, 10] [(2, pt a6 0), (4, pt a1 0), (5, pt a2 0), (6, pt a4 0), (8, ia (a0.f3.length : Int)), (9, ia q9), (10, .bool (u6))] (by kernel_rfl) ?_
 refine EL.done (by kernel_rfl) ?_
 refine EQ.code ?_
 refine EW.sq (by kernel_rfl) ?_
 refine EW.rg (by kernel_rfl) ?_
 refine EL.quick 1 [2, 4, 5, 6, 8, 9, 50] [(2, pt a6 0), (4, pt a1 0), (5, pt a2 0), (6, pt a4 0), (8, ia (a0.f3.length : Int)), (9, ia q9), (50, .bool (u6))] (by kernel_rfl) ?_
 refine EL.done (by kernel_rfl) ?_
 refine EQ.code ?_
 refine EW.cdP' (u6) (by kernel_rfl) (by kernel_rfl) (fun y2 => ?_) (fun y2 => ?_)
 ·rw [if_pos y2] at H
  refine EW.sq (by kernel_rfl) ?_
  refine EW.sq (by kernel_rfl) ?_
  refine EW.rg (by kernel_rfl) ?_
  refine EL.quick 3 [2, 4, 5, 53] [(2, pt a6 0), (4, pt a1 0), (5, pt a2 0), (53, .bool (decide ((a0.f3.length : Int) < q9)))] (by kernel_rfl) ?_
  refine EL.done (by kernel_rfl) ?_
  refine EQ.code ?_
  refine EW.cdP ((a0.f3.length : Int) < q9) (by kernel_rfl) (by kernel_rfl) (fun y3 => ?_) (fun y3 => ?_)
  ·rw [if_pos y3] at H
   refine EW.sq (by kernel_rfl) ?_
   refine EW.rg (by kernel_rfl) ?_
   refine EL.of (EO.Y (YO.loadBox hS 3 rfl 58 0 12 (ag (cellsS58 a0 (a5, a3))) 54 (by kernel_rfl) (by kernel_rfl) (by kernel_rfl) (by kernel_rfl)) ?_)
   have hS : St B _ (Ass.box 32 a4 [ia a7, ib a8] :: Ass.box 63 a2 (encS63 zS63) :: Ass.box 58 a1 (cellsS58 zS58 (none, 0)) :: Ass.box 58 a6 (cellsS58 a0 (a5, a3)) :: os) (Ro.sl (Kd.int .i32) a5 a3 a0.f3 :: Ro.sl (Kd.slice kS32) b7 b8 b6 :: rs) := hS.re [] [] rfl (sub_cons 0 rfl (sub_tail (sub_self)))
   obtain ⟨m7, e5, D4, H⟩ := b2_out H
   have hq := confidantref9_failed.calls D4 hS
   refine EL.of (EO.callD 53 [ag (cellsS58 a0 (a5, a3)), ia 24] _ 55 (by kernel_rfl) (by kernel_rfl) (by kernel_rfl) hq ?_)
   rintro v w ⟨g6, j1, rfl, hS⟩
   refine EL.quick 2 [4, 5, 56, 57] [(4, pt a1 0), (5, pt a2 0), (56, ag (cellsS58 e5 (g6, j1))), (57, ag (encS63 m7))] (by kernel_rfl) ?_
   refine EL.of (EO.storeBox (os' := Ass.box 32 a4 [ia a7, ib a8] :: Ass.box 63 a2 (encS63 zS63) :: Ass.box 58 a1 (cellsS58 e5 (g6, j1)) :: Ass.box 58 a6 (cellsS58 a0 (a5, a3)) :: os) hS 2 rfl 58 0 (ag (cellsS58 e5 (g6, j1))) (cellsS58 e5 (g6, j1)) (by kernel_rfl) (by kernel_rfl) (by kernel_rfl) (by kernel_rfl) (by kernel_rfl) (by kernel_rfl) rfl rfl ?_)
   intro w hS
   refine EL.of (EO.storeBox (os' := Ass.box 32 a4 [ia a7, ib a8] :: Ass.box 63 a2 (encS63 m7) :: Ass.box 58 a1 (cellsS58 e5 (g6, j1)) :: Ass.box 58 a6 (cellsS58 a0 (a5, a3)) :: os) hS 1 rfl 63 0 (ag (encS63 m7)) (encS63 m7) (by kernel_rfl) (by kernel_rfl) (by kernel_rfl) (by kernel_rfl) (by kernel_rfl) (by kernel_rfl) rfl rfl ?_)
   intro w hS
   refine EL.done (by kernel_rfl) ?_
   refine EQ.code ?_
   refine EW.ret (by kernel_rfl) ?_
   refine EQ.ret ?_
   refine EQ.ret ?_
   simp only [cellsS58, encS63, Option.some.injEq, Prod.mk.injEq] at H
   obtain ⟨rfl, rfl⟩ := H
   exact EQ.leave2 hS (.cell 4 58) (.cell 5 63) (ag (cellsS58 e5 (g6, j1))) (ag (encS63 m7)) (by kernel_rfl) ⟨2, 58, a1, (cellsS58 e5 (g6, j1)), 0, 12, rfl, (by kernel_rfl), (by kernel_rfl)⟩ ⟨1, 63, a2, (encS63 m7), 0, 3, rfl, (by kernel_rfl), (by kernel_rfl)⟩ ⟨_, rfl, g6, j1, rfl, (hS.re [] [0, 0, 0, 0] rfl (sub_cons 0 rfl (sub_tail (sub_self))))⟩
  rw [if_neg y3] at H
  refine EW.skip (by kernel_rfl) ?_
  refine EQ.code ?_
  refine EW.sq (by kernel_rfl) ?_
  refine EW.rg (by kernel_rfl) ?_
  refine EL.of (EO.Y (YO.loadBox hS 3 rfl 58 0 12 (ag (cellsS58 a0 (a5, a3))) 58 (by kernel_rfl) (by kernel_rfl) (by kernel_rfl) (by kernel_rfl)) ?_)
  refine EL.quick 1 [4, 5, 58, 59] [(4, pt a1 0), (5, pt a2 0), (58, ag (cellsS58 a0 (a5, a3))), (59, ag (encS63 {zS63 with f0 := 4}))] (by kernel_rfl) ?_
  refine EL.of (EO.storeBox (os' := Ass.box 32 a4 [ia a7, ib a8] :: Ass.box 63 a2 (encS63 zS63) :: Ass.box 58 a1 (cellsS58 a0 (a5, a3)) :: Ass.box 58 a6 (cellsS58 a0 (a5, a3)) :: os) hS 2 rfl 58 0 (ag (cellsS58 a0 (a5, a3))) (cellsS58 a0 (a5, a3)) (by kernel_rfl) (by kernel_rfl) (by kernel_rfl) (by kernel_rfl) (by kernel_rfl) (by kernel_rfl) rfl rfl ?_)
  intro w hS
  refine EL.of (EO.storeBox (os' := Ass.box 32 a4 [ia a7, ib a8] :: Ass.box 63 a2 (encS63 {zS63 with f0 := 4}) :: Ass.box 58 a1 (cellsS58 a0 (a5, a3)) :: Ass.box 58 a6 (cellsS58 a0 (a5, a3)) :: os) hS 1 rfl 63 0 (ag (encS63 {zS63 with f0 := 4})) (encS63 {zS63 with f0 := 4}) (by kernel_rfl) (by kernel_rfl) (by kernel_rfl) (by kernel_rfl) (by kernel_rfl) (by kernel_rfl) rfl rfl ?_)
  intro w hS
  refine EL.done (by kernel_rfl) ?_
  refine EQ.code ?_
  refine EW.ret (by kernel_rfl) ?_
  refine EQ.ret ?_
  simp only [cellsS58, encS63, Option.some.injEq, Prod.mk.injEq] at H
  obtain ⟨rfl, rfl⟩ := H
  exact EQ.leave2 hS (.cell 4 58) (.cell 5 63) (ag (cellsS58 a0 (a5, a3))) (ag (encS63 {zS63 with f0 := 4})) (by kernel_rfl) ⟨2, 58, a1, (cellsS58 a0 (a5, a3)), 0, 12, rfl, (by kernel_rfl), (by kernel_rfl)⟩ ⟨1, 63, a2, (encS63 {zS63 with f0 := 4}), 0, 3, rfl, (by kernel_rfl), (by kernel_rfl)⟩ ⟨_, rfl, a5, a3, rfl, (hS.re [] [0, 0, 0, 0] rfl (sub_cons 0 rfl (sub_self)))⟩
 rw [if_neg y2] at H
 refine EW.skip (by kernel_rfl) ?_
 refine EQ.code ?_
 refine EW.sq (by kernel_rfl) ?_
 refine EW.sq (by kernel_rfl) ?_
 refine EW.rg (by kernel_rfl) ?_
 refine EL.quick 2 [2, 4, 5, 6, 8, 60, 61] [(2, pt a6 0), (4, pt a1 0), (5, pt a2 0), (6, pt a4 0), (8, ia (a0.f3.length : Int)), (60, ia (a0.f3.length : Int)), (61, pt a4 0)] (by kernel_rfl) ?_
 refine EL.of (EO.Y (YO.loadBox hS 0 rfl 3 0 1 (ia a7) 62 (by kernel_rfl) (by kernel_rfl) (by kernel_rfl) (by kernel_rfl)) ?_)
 obtain ⟨y0, D5, H⟩ := b1_out H
 have hq := confidantref9_pops.calls D5 hS
 refine EL.of (EO.callD 55 [ia a7] _ 63 (by kernel_rfl) (by kernel_rfl) (by kernel_rfl) hq ?_)
 rintro v w ⟨rfl, hS⟩
 refine EL.quick 1 [2, 4, 5, 6, 8, 64] [(2, pt a6 0), (4, pt a1 0), (5, pt a2 0), (6, pt a4 0), (8, ia (a0.f3.length : Int)), (64, .bool (decide ((a0.f3.length : Int) < y0)))] (by kernel_rfl) ?_
 refine EL.done (by kernel_rfl) ?_
 refine EQ.code ?_
 refine EW.cdP ((a0.f3.length : Int) < y0) (by kernel_rfl) (by kernel_rfl) (fun y4 => ?_) (fun y4 => ?_)
 ·rw [if_pos y4] at H
  refine EW.sq (by kernel_rfl) ?_
  refine EW.rg (by kernel_rfl) ?_
  refine EL.of (EO.Y (YO.loadBox hS 3 rfl 58 0 12 (ag (cellsS58 a0 (a5, a3))) 65 (by kernel_rfl) (by kernel_rfl) (by kernel_rfl) (by kernel_rfl)) ?_)
  have hS : St B _ (Ass.box 32 a4 [ia a7, ib a8] :: Ass.box 63 a2 (encS63 zS63) :: Ass.box 58 a1 (cellsS58 zS58 (none, 0)) :: Ass.box 58 a6 (cellsS58 a0 (a5, a3)) :: os) (Ro.sl (Kd.int .i32) a5 a3 a0.f3 :: Ro.sl (Kd.slice kS32) b7 b8 b6 :: rs) := hS.re [] [] rfl (sub_cons 0 rfl (sub_tail (sub_self)))
  obtain ⟨m8, e6, D6, H⟩ := b2_out H
  have hq := confidantref9_failed.calls D6 hS
  refine EL.of (EO.callD 53 [ag (cellsS58 a0 (a5, a3)), ia 24] _ 66 (by kernel_rfl) (by kernel_rfl) (by kernel_rfl) hq ?_)
  rintro v w ⟨g7, j2, rfl, hS⟩
  refine EL.quick 2 [4, 5, 67, 68] [(4, pt a1 0), (5, pt a2 0), (67, ag (cellsS58 e6 (g7, j2))), (68, ag (encS63 m8))] (by kernel_rfl) ?_
  refine EL.of (EO.storeBox (os' := Ass.box 32 a4 [ia a7, ib a8] :: Ass.box 63 a2 (encS63 zS63) :: Ass.box 58 a1 (cellsS58 e6 (g7, j2)) :: Ass.box 58 a6 (cellsS58 a0 (a5, a3)) :: os) hS 2 rfl 58 0 (ag (cellsS58 e6 (g7, j2))) (cellsS58 e6 (g7, j2)) (by kernel_rfl) (by kernel_rfl) (by kernel_rfl) (by kernel_rfl) (by kernel_rfl) (by kernel_rfl) rfl rfl ?_)
  intro w hS
  refine EL.of (EO.storeBox (os' := Ass.box 32 a4 [ia a7, ib a8] :: Ass.box 63 a2 (encS63 m8) :: Ass.box 58 a1 (cellsS58 e6 (g7, j2)) :: Ass.box 58 a6 (cellsS58 a0 (a5, a3)) :: os) hS 1 rfl 63 0 (ag (encS63 m8)) (encS63 m8) (by kernel_rfl) (by kernel_rfl) (by kernel_rfl) (by kernel_rfl) (by kernel_rfl) (by kernel_rfl) rfl rfl ?_)
  intro w hS
  refine EL.done (by kernel_rfl) ?_
  refine EQ.code ?_
  refine EW.ret (by kernel_rfl) ?_
  refine EQ.ret ?_
  simp only [cellsS58, encS63, Option.some.injEq, Prod.mk.injEq] at H
  obtain ⟨rfl, rfl⟩ := H
  exact EQ.leave2 hS (.cell 4 58) (.cell 5 63) (ag (cellsS58 e6 (g7, j2))) (ag (encS63 m8)) (by kernel_rfl) ⟨2, 58, a1, (cellsS58 e6 (g7, j2)), 0, 12, rfl, (by kernel_rfl), (by kernel_rfl)⟩ ⟨1, 63, a2, (encS63 m8), 0, 3, rfl, (by kernel_rfl), (by kernel_rfl)⟩ ⟨_, rfl, g7, j2, rfl, (hS.re [] [0, 0, 0, 0] rfl (sub_cons 0 rfl (sub_tail (sub_self))))⟩
 rw [if_neg y4] at H
 refine EW.skip (by kernel_rfl) ?_
 refine EQ.code ?_
 refine EW.sq (by kernel_rfl) ?_
 refine EW.rg (by kernel_rfl) ?_
 refine EL.quick 2 [2, 4, 5, 6, 8, 11, 12] [(2, pt a6 0), (4, pt a1 0), (5, pt a2 0), (6, pt a4 0), (8, ia (a0.f3.length : Int)), (11, ib 0), (12, ib 0)] (by kernel_rfl) ?_
 refine EL.done (by kernel_rfl) ?_
 refine EQ.code ?_
 obtain ⟨x3, F2, H⟩ := lt_out H
 refine EW.ct (fun a w => ∃ a9 : Int, Sat 218 [(2, pt a6 0), (4, pt a1 0), (5, pt a2 0), (6, pt a4 0), (8, ia (a0.f3.length : Int)), (11, ib a9), (12, ib 0)] a ∧ St B w (Ass.box 32 a4 [ia a7, ib a8] :: Ass.box 63 a2 (encS63 zS63) :: Ass.box 58 a1 (cellsS58 zS58 (none, 0)) :: Ass.box 58 a6 (cellsS58 a0 (a5, a3)) :: os) (Ro.sl (Kd.int .i32) a5 a3 a0.f3 :: Ro.sl (Kd.slice kS32) b7 b8 b6 :: rs) ∧ x3 a9 = some (e3, d9)) (by kernel_rfl) ?_ (fun a w hI => ?_)
 ·refine EW.sq (by kernel_rfl) ?_
  refine EW.rg (by kernel_rfl) ?_
  refine EL.quick 2 [2, 4, 5, 6, 8, 11, 12, 70] [(2, pt a6 0), (4, pt a1 0), (5, pt a2 0), (6, pt a4 0), (8, ia (a0.f3.length : Int)), (11, ib 0), (12, ib 0), (70, .bool (decide ((a0.f3.length : Int) > 0)))] (by kernel_rfl) ?_
  refine EL.done (by kernel_rfl) ?_
  refine EQ.code ?_
  refine EW.cdP ((a0.f3.length : Int) > 0) (by kernel_rfl) (by kernel_rfl) (fun y5 => ?_) (fun y5 => ?_)
  ·rw [if_pos y5] at H
   refine EW.rg (by kernel_rfl) ?_
   refine EL.quick 1 [2, 4, 5, 6, 8, 12, 71] [(2, pt a6 0), (4, pt a1 0), (5, pt a2 0), (6, pt a4 0), (8, ia (a0.f3.length : Int)), (12, ib 0), (71, pt a6 3)] (by kernel_rfl) ?_
   refine EL.of (EO.Y (YO.loadBox hS 3 rfl 54 3 1 (sv a5 a3 a0.f3) 72 (by kernel_rfl) (by kernel_rfl) (by kernel_rfl) (by kernel_rfl)) ?_)
   refine EL.quick 2 [2, 4, 5, 6, 8, 12, 72, 74] [(2, pt a6 0), (4, pt a1 0), (5, pt a2 0), (6, pt a4 0), (8, ia (a0.f3.length : Int)), (12, ib 0), (72, sv a5 a3 a0.f3), (74, ia (IntKind.i64.wrap ((a0.f3.length : Int) - 1)))] (by kernel_rfl) ?_
   obtain ⟨y6, H⟩ := ite_in H
   obtain ⟨y7, H⟩ := ite_in H
   obtain ⟨B3, rfl⟩ := St.rd_some hS (Rd.ro 0 rfl) y6 y7
   refine EL.of (EO.Y (YO.idx 54 1 B3 a0.f3.length a3 .i64 (IntKind.i64.wrap ((a0.f3.length : Int) - 1)) 75 (by kernel_rfl) (by kernel_rfl) (by kernel_rfl) (by kernel_rfl) y6 y7) ?_)
   refine EL.of (EO.Y (YO.loadEl hS (Kd.int .i32) B3 a3 a0.f3 (Rd.ro 0 rfl) 0 (encI .i32) encI_of (IntKind.i64.wrap ((a0.f3.length : Int) - 1)) y6 y7 21 1 0 1 rfl (ib (a0.f3.getD (IntKind.i64.wrap ((a0.f3.length : Int) - 1)).toNat 0)) 76 (by kernel_rfl) (by kernel_rfl) (by kernel_rfl) (by kernel_rfl)) ?_)
   refine EL.quick 1 [2, 4, 5, 6, 8, 11, 12] [(2, pt a6 0), (4, pt a1 0), (5, pt a2 0), (6, pt a4 0), (8, ia (a0.f3.length : Int)), (11, ib (a0.f3.getD (IntKind.i64.wrap ((a0.f3.length : Int) - 1)).toNat 0)), (12, ib 0)] (by kernel_rfl) ?_
   obtain ⟨u7, G0, H⟩ := lt_out H
   refine EL.keep [2, 4, 5, 6, 8, 11, 12] [(2, pt a6 0), (4, pt a1 0), (5, pt a2 0), (6, pt a4 0), (8, ia (a0.f3.length : Int)), (11, ib (a0.f3.getD (IntKind.i64.wrap ((a0.f3.length : Int) - 1)).toNat 0)), (12, ib 0)] (by kernel_rfl) ?_
   refine EL.as' [(2, pt a6 0), (4, pt a1 0), (5, pt a2 0), (6, pt a4 0), (8, ia (a0.f3.length : Int)), (11, ib u7), (12, ib 0)] (by subst G0; rfl) ?_
   refine EL.done (by kernel_rfl) ?_
   refine EQ.to ?_
   refine EQ.keep [2, 4, 5, 6, 8, 11, 12] [(2, pt a6 0), (4, pt a1 0), (5, pt a2 0), (6, pt a4 0), (8, ia (a0.f3.length : Int)), (11, ib u7), (12, ib 0)] (by kernel_rfl) ?_
   exact fun a ha => ⟨u7, ha, (hS.re [3, 3, 3, 3] [] rfl (sub_cons 0 rfl (sub_cons 1 rfl (sub_tail (sub_tail (sub_self)))))), H⟩
  rw [if_neg y5] at H
  refine EW.skip (by kernel_rfl) ?_
  refine EQ.to ?_
  refine EQ.keep [2, 4, 5, 6, 8, 11, 12] [(2, pt a6 0), (4, pt a1 0), (5, pt a2 0), (6, pt a4 0), (8, ia (a0.f3.length : Int)), (11, ib 0), (12, ib 0)] (by kernel_rfl) ?_
  exact fun a ha => ⟨0, ha, (hS.re [3, 3, 3, 3] [] rfl (sub_cons 0 rfl (sub_cons 1 rfl (sub_tail (sub_tail (sub_self)))))), H⟩
 obtain ⟨a9, ha, hS, H⟩ := hI
 rw [F2] at H
 (try dsimp only at H)
 refine EW.at ?_ a ha
 clear ha a
 obtain ⟨x4, F3, H⟩ := lt_out H
 refine EW.ct (fun a w => ∃ c3 : Int, Sat 218 [(2, pt a6 0), (4, pt a1 0), (5, pt a2 0), (6, pt a4 0), (11, ib a9), (12, ib c3)] a ∧ St B w (Ass.box 32 a4 [ia a7, ib a8] :: Ass.box 63 a2 (encS63 zS63) :: Ass.box 58 a1 (cellsS58 zS58 (none, 0)) :: Ass.box 58 a6 (cellsS58 a0 (a5, a3)) :: os) (Ro.sl (Kd.int .i32) a5 a3 a0.f3 :: Ro.sl (Kd.slice kS32) b7 b8 b6 :: rs) ∧ x4 c3 = some (e3, d9)) (by kernel_rfl) ?_ (fun a w hI => ?_)
 ·refine EW.sq (by kernel_rfl) ?_
  refine EW.rg (by kernel_rfl) ?_
  refine EL.quick 2 [2, 4, 5, 6, 8, 11, 12, 78] [(2, pt a6 0), (4, pt a1 0), (5, pt a2 0), (6, pt a4 0), (8, ia (a0.f3.length : Int)), (11, ib a9), (12, ib 0), (78, .bool (decide ((a0.f3.length : Int) > 1)))] (by kernel_rfl) ?_
  refine EL.done (by kernel_rfl) ?_
  refine EQ.code ?_
  refine EW.cdP ((a0.f3.length : Int) > 1) (by kernel_rfl) (by kernel_rfl) (fun y8 => ?_) (fun y8 => ?_)
  ·rw [if_pos y8] at H
   refine EW.rg (by kernel_rfl) ?_
   refine EL.quick 1 [2, 4, 5, 6, 8, 11, 79] [(2, pt a6 0), (4, pt a1 0), (5, pt a2 0), (6, pt a4 0), (8, ia (a0.f3.length : Int)), (11, ib a9), (79, pt a6 3)] (by kernel_rfl) ?_
   refine EL.of (EO.Y (YO.loadBox hS 3 rfl 54 3 1 (sv a5 a3 a0.f3) 80 (by kernel_rfl) (by kernel_rfl) (by kernel_rfl) (by kernel_rfl)) ?_)
   refine EL.quick 2 [2, 4, 5, 6, 11, 80, 82] [(2, pt a6 0), (4, pt a1 0), (5, pt a2 0), (6, pt a4 0), (11, ib a9), (80, sv a5 a3 a0.f3), (82, ia (IntKind.i64.wrap ((a0.f3.length : Int) - 2)))] (by kernel_rfl) ?_
   obtain ⟨y9, H⟩ := ite_in H
   obtain ⟨z0, H⟩ := ite_in H
   obtain ⟨B4, rfl⟩ := St.rd_some hS (Rd.ro 0 rfl) y9 z0
   refine EL.of (EO.Y (YO.idx 54 1 B4 a0.f3.length a3 .i64 (IntKind.i64.wrap ((a0.f3.length : Int) - 2)) 83 (by kernel_rfl) (by kernel_rfl) (by kernel_rfl) (by kernel_rfl) y9 z0) ?_)
   refine EL.of (EO.Y (YO.loadEl hS (Kd.int .i32) B4 a3 a0.f3 (Rd.ro 0 rfl) 0 (encI .i32) encI_of (IntKind.i64.wrap ((a0.f3.length : Int) - 2)) y9 z0 21 1 0 1 rfl (ib (a0.f3.getD (IntKind.i64.wrap ((a0.f3.length : Int) - 2)).toNat 0)) 84 (by kernel_rfl) (by kernel_rfl) (by kernel_rfl) (by kernel_rfl)) ?_)
   refine EL.quick 1 [2, 4, 5, 6, 11, 12] [(2, pt a6 0), (4, pt a1 0), (5, pt a2 0), (6, pt a4 0), (11, ib a9), (12, ib (a0.f3.getD (IntKind.i64.wrap ((a0.f3.length : Int) - 2)).toNat 0))] (by kernel_rfl) ?_
   obtain ⟨u8, G1, H⟩ := lt_out H
   refine EL.keep [2, 4, 5, 6, 11, 12] [(2, pt a6 0), (4, pt a1 0), (5, pt a2 0), (6, pt a4 0), (11, ib a9), (12, ib (a0.f3.getD (IntKind.i64.wrap ((a0.f3.length : Int) - 2)).toNat 0))] (by kernel_rfl) ?_
   refine EL.as' [(2, pt a6 0), (4, pt a1 0), (5, pt a2 0), (6, pt a4 0), (11, ib a9), (12, ib u8)] (by subst G1; rfl) ?_
   refine EL.done (by kernel_rfl) ?_
   refine EQ.to ?_
   refine EQ.keep [2, 4, 5, 6, 11, 12] [(2, pt a6 0), (4, pt a1 0), (5, pt a2 0), (6, pt a4 0), (11, ib a9), (12, ib u8)] (by kernel_rfl) ?_
   exact fun a ha => ⟨u8, ha, (hS.re [3, 3, 3, 3] [] rfl (sub_cons 0 rfl (sub_cons 1 rfl (sub_tail (sub_tail (sub_self)))))), H⟩
  rw [if_neg y8] at H
  refine EW.skip (by kernel_rfl) ?_
  refine EQ.to ?_
  refine EQ.keep [2, 4, 5, 6, 11, 12] [(2, pt a6 0), (4, pt a1 0), (5, pt a2 0), (6, pt a4 0), (11, ib a9), (12, ib 0)] (by kernel_rfl) ?_
  exact fun a ha => ⟨0, ha, (hS.re [3, 3, 3, 3] [] rfl (sub_cons 0 rfl (sub_cons 1 rfl (sub_tail (sub_tail (sub_self)))))), H⟩
 obtain ⟨c3, ha, hS, H⟩ := hI
 rw [F3] at H
 (try dsimp only at H)
 refine EW.at ?_ a ha
 clear ha a
 refine EW.sq (by kernel_rfl) ?_
 refine EW.sq (by kernel_rfl) ?_
 refine EW.rg (by kernel_rfl) ?_
 refine EL.quick 1 [2, 4, 5, 6, 11, 12, 85] [(2, pt a6 0), (4, pt a1 0), (5, pt a2 0), (6, pt a4 0), (11, ib a9), (12, ib c3), (85, pt a4 0)] (by kernel_rfl) ?_
 refine EL.of (EO.Y (YO.loadBox hS 0 rfl 3 0 1 (ia a7) 86 (by kernel_rfl) (by kernel_rfl) (by kernel_rfl) (by kernel_rfl)) ?_)
 refine EL.done (by kernel_rfl) ?_
 refine EQ.code ?_
 refine EW.bl 0 (by kernel_rfl) ?_
 refine EW.sq (by kernel_rfl) ?_
 refine EW.rg (by kernel_rfl) ?_
 refine EL.quick 2 [2, 4, 5, 6, 11, 12, 86, 87] [(2, pt a6 0), (4, pt a1 0), (5, pt a2 0), (6, pt a4 0), (11, ib a9), (12, ib c3), (86, ia a7), (87, .bool (decide (a7 = 1)))] (by kernel_rfl) ?_
 refine EL.done (by kernel_rfl) ?_
 refine EQ.code ?_
 refine EW.cdP (a7 = 1) (by kernel_rfl) (by kernel_rfl) (fun z1 => ?_) (fun z1 => ?_)
 ·rw [if_pos z1] at H
  refine EW.sq (by kernel_rfl) ?_
  refine EW.rg (by kernel_rfl) ?_
  refine EL.of (EO.Y (YO.loadBox hS 3 rfl 58 0 12 (ag (cellsS58 a0 (a5, a3))) 89 (by kernel_rfl) (by kernel_rfl) (by kernel_rfl) (by kernel_rfl)) ?_)
  refine EL.quick 1 [4, 5, 89, 90] [(4, pt a1 0), (5, pt a2 0), (89, ag (cellsS58 a0 (a5, a3))), (90, pt a4 1)] (by kernel_rfl) ?_
  refine EL.of (EO.Y (YO.loadBox hS 0 rfl 21 1 1 (ib a8) 91 (by kernel_rfl) (by kernel_rfl) (by kernel_rfl) (by kernel_rfl)) ?_)
  obtain ⟨t8, C3, H⟩ := lt_out H
  refine EL.of (EO.lit hS (Kd.int .i32) 21 54 1 #[(0, ib a8)] [ib a8] t8 92 (by kernel_rfl) (by kernel_rfl) (by kernel_rfl) (fun _ => (by kernel_rfl)) (by rw [C3]; rfl) (by kernel_rfl) (fun w G hr => (by rw [C3]; exact ⟨[ib a8], [], rfl, rfl, rfl⟩)) ?_)
  intro B5 w hS
  have hS := St.fr hS 0 rfl
  have hS : St B _ (Ass.box 32 a4 [ia a7, ib a8] :: Ass.box 63 a2 (encS63 zS63) :: Ass.box 58 a1 (cellsS58 zS58 (none, 0)) :: Ass.box 58 a6 (cellsS58 a0 (a5, a3)) :: os) (Ro.sl (Kd.int .i32) a5 a3 a0.f3 :: Ro.sl (Kd.int .i32) (some ⟨B5, 0, none⟩) 1 t8 :: Ro.sl (Kd.slice kS32) b7 b8 b6 :: rs) := hS.re [] [] rfl (sub_cons 1 rfl (sub_cons 0 rfl (sub_tail (sub_tail (sub_self)))))
  obtain ⟨m9, e7, D7, H⟩ := b2_out H
  have hq := confidantref9_went.calls D7 hS
  refine EL.of (EO.callD 56 [ag (cellsS58 a0 (a5, a3)), ia 0, sv (some ⟨B5, 0, none⟩) 1 t8] _ 93 (by kernel_rfl) (by kernel_rfl) (by kernel_rfl) hq ?_)
  rintro v w ⟨g8, j3, rfl, hS⟩
  refine EL.quick 2 [4, 5, 94, 95] [(4, pt a1 0), (5, pt a2 0), (94, ag (cellsS58 e7 (g8, j3))), (95, ag (encS63 m9))] (by kernel_rfl) ?_
  refine EL.of (EO.storeBox (os' := Ass.box 32 a4 [ia a7, ib a8] :: Ass.box 63 a2 (encS63 zS63) :: Ass.box 58 a1 (cellsS58 e7 (g8, j3)) :: Ass.box 58 a6 (cellsS58 a0 (a5, a3)) :: os) hS 2 rfl 58 0 (ag (cellsS58 e7 (g8, j3))) (cellsS58 e7 (g8, j3)) (by kernel_rfl) (by kernel_rfl) (by kernel_rfl) (by kernel_rfl) (by kernel_rfl) (by kernel_rfl) rfl rfl ?_)
  intro w hS
  refine EL.of (EO.storeBox (os' := Ass.box 32 a4 [ia a7, ib a8] :: Ass.box 63 a2 (encS63 m9) :: Ass.box 58 a1 (cellsS58 e7 (g8, j3)) :: Ass.box 58 a6 (cellsS58 a0 (a5, a3)) :: os) hS 1 rfl 63 0 (ag (encS63 m9)) (encS63 m9) (by kernel_rfl) (by kernel_rfl) (by kernel_rfl) (by kernel_rfl) (by kernel_rfl) (by kernel_rfl) rfl rfl ?_)
  intro w hS
  refine EL.done (by kernel_rfl) ?_
  refine EQ.code ?_
  refine EW.ret (by kernel_rfl) ?_
  refine EQ.ret ?_
  refine EQ.ret ?_
  simp only [cellsS58, encS63, Option.some.injEq, Prod.mk.injEq] at H
  obtain ⟨rfl, rfl⟩ := H
  exact EQ.leave2 hS (.cell 4 58) (.cell 5 63) (ag (cellsS58 e7 (g8, j3))) (ag (encS63 m9)) (by kernel_rfl) ⟨2, 58, a1, (cellsS58 e7 (g8, j3)), 0, 12, rfl, (by kernel_rfl), (by kernel_rfl)⟩ ⟨1, 63, a2, (encS63 m9), 0, 3, rfl, (by kernel_rfl), (by kernel_rfl)⟩ ⟨_, rfl, g8, j3, rfl, (hS.re [] [0, 0, 0, 0] rfl (sub_cons 0 rfl (sub_cons 1 rfl (sub_cons 3 rfl (sub_tail (sub_tail (sub_tail (sub_tail (sub_self)))))))))⟩
 rw [if_neg z1] at H
 refine EW.sq (by kernel_rfl) ?_
 refine EW.rg (by kernel_rfl) ?_
 refine EL.quick 2 [2, 4, 5, 6, 11, 12, 86, 96] [(2, pt a6 0), (4, pt a1 0), (5, pt a2 0), (6, pt a4 0), (11, ib a9), (12, ib c3), (86, ia a7), (96, .bool (decide (a7 = 2)))] (by kernel_rfl) ?_
 refine EL.done (by kernel_rfl) ?_
 refine EQ.code ?_
 refine EW.cdP (a7 = 2) (by kernel_rfl) (by kernel_rfl) (fun z2 => ?_) (fun z2 => ?_)
 ·rw [if_pos z2] at H
  refine EW.sq (by kernel_rfl) ?_
  refine EW.rg (by kernel_rfl) ?_
  refine EL.of (EO.Y (YO.loadBox hS 3 rfl 58 0 12 (ag (cellsS58 a0 (a5, a3))) 98 (by kernel_rfl) (by kernel_rfl) (by kernel_rfl) (by kernel_rfl)) ?_)
  have hS := St.nilR hS (Kd.int .i32)
  have hS : St B _ (Ass.box 32 a4 [ia a7, ib a8] :: Ass.box 63 a2 (encS63 zS63) :: Ass.box 58 a1 (cellsS58 zS58 (none, 0)) :: Ass.box 58 a6 (cellsS58 a0 (a5, a3)) :: os) (Ro.sl (Kd.int .i32) a5 a3 a0.f3 :: Ro.sl (Kd.int .i32) none 0 ([] : List Int) :: Ro.sl (Kd.slice kS32) b7 b8 b6 :: rs) := hS.re [] [] rfl (sub_cons 1 rfl (sub_cons 0 rfl (sub_tail (sub_tail (sub_self)))))
  obtain ⟨n0, e8, D8, H⟩ := b2_out H
  have hq := confidantref9_went.calls D8 hS
  refine EL.of (EO.callD 56 [ag (cellsS58 a0 (a5, a3)), ia 1, sv none 0 ([] : List Int)] _ 99 (by kernel_rfl) (by kernel_rfl) (by kernel_rfl) hq ?_)
  rintro v w ⟨g9, j4, rfl, hS⟩
  refine EL.quick 2 [4, 5, 100, 101] [(4, pt a1 0), (5, pt a2 0), (100, ag (cellsS58 e8 (g9, j4))), (101, ag (encS63 n0))] (by kernel_rfl) ?_
  refine EL.of (EO.storeBox (os' := Ass.box 32 a4 [ia a7, ib a8] :: Ass.box 63 a2 (encS63 zS63) :: Ass.box 58 a1 (cellsS58 e8 (g9, j4)) :: Ass.box 58 a6 (cellsS58 a0 (a5, a3)) :: os) hS 2 rfl 58 0 (ag (cellsS58 e8 (g9, j4))) (cellsS58 e8 (g9, j4)) (by kernel_rfl) (by kernel_rfl) (by kernel_rfl) (by kernel_rfl) (by kernel_rfl) (by kernel_rfl) rfl rfl ?_)
  intro w hS
  refine EL.of (EO.storeBox (os' := Ass.box 32 a4 [ia a7, ib a8] :: Ass.box 63 a2 (encS63 n0) :: Ass.box 58 a1 (cellsS58 e8 (g9, j4)) :: Ass.box 58 a6 (cellsS58 a0 (a5, a3)) :: os) hS 1 rfl 63 0 (ag (encS63 n0)) (encS63 n0) (by kernel_rfl) (by kernel_rfl) (by kernel_rfl) (by kernel_rfl) (by kernel_rfl) (by kernel_rfl) rfl rfl ?_)
  intro w hS
  refine EL.done (by kernel_rfl) ?_
  refine EQ.code ?_
  refine EW.ret (by kernel_rfl) ?_
  refine EQ.ret ?_
  refine EQ.ret ?_
  simp only [cellsS58, encS63, Option.some.injEq, Prod.mk.injEq] at H
  obtain ⟨rfl, rfl⟩ := H
  exact EQ.leave2 hS (.cell 4 58) (.cell 5 63) (ag (cellsS58 e8 (g9, j4))) (ag (encS63 n0)) (by kernel_rfl) ⟨2, 58, a1, (cellsS58 e8 (g9, j4)), 0, 12, rfl, (by kernel_rfl), (by kernel_rfl)⟩ ⟨1, 63, a2, (encS63 n0), 0, 3, rfl, (by kernel_rfl), (by kernel_rfl)⟩ ⟨_, rfl, g9, j4, rfl, (hS.re [] [0, 0, 0, 0] rfl (sub_cons 0 rfl (sub_cons 1 rfl (sub_cons 3 rfl (sub_tail (sub_tail (sub_tail (sub_tail (sub_self)))))))))⟩
 rw [if_neg z2] at H
 refine EW.sq (by kernel_rfl) ?_
 refine EW.rg (by kernel_rfl) ?_
 refine EL.quick 2 [2, 4, 5, 6, 11, 12, 86, 102] [(2, pt a6 0), (4, pt a1 0), (5, pt a2 0), (6, pt a4 0), (11, ib a9), (12, ib c3), (86, ia a7), (102, .bool (decide (a7 = 3)))] (by kernel_rfl) ?_
 refine EL.done (by kernel_rfl) ?_
 refine EQ.code ?_
 refine EW.cdP (a7 = 3) (by kernel_rfl) (by kernel_rfl) (fun z3 => ?_) (fun z3 => ?_)
 ·rw [if_pos z3] at H
  refine EW.sq (by kernel_rfl) ?_
  refine EW.rg (by kernel_rfl) ?_
  refine EL.of (EO.Y (YO.loadBox hS 3 rfl 58 0 12 (ag (cellsS58 a0 (a5, a3))) 104 (by kernel_rfl) (by kernel_rfl) (by kernel_rfl) (by kernel_rfl)) ?_)
  refine EL.quick 1 [4, 5, 104, 105] [(4, pt a1 0), (5, pt a2 0), (104, ag (cellsS58 a0 (a5, a3))), (105, ib a9)] (by kernel_rfl) ?_
  obtain ⟨t9, C4, H⟩ := lt_out H
  refine EL.of (EO.lit hS (Kd.int .i32) 21 54 1 #[(0, ib a9)] [ib a9] t9 106 (by kernel_rfl) (by kernel_rfl) (by kernel_rfl) (fun _ => (by kernel_rfl)) (by rw [C4]; rfl) (by kernel_rfl) (fun w G hr => (by rw [C4]; exact ⟨[ib a9], [], rfl, rfl, rfl⟩)) ?_)
  intro B6 w hS
  have hS := St.fr hS 0 rfl
  have hS : St B _ (Ass.box 32 a4 [ia a7, ib a8] :: Ass.box 63 a2 (encS63 zS63) :: Ass.box 58 a1 (cellsS58 zS58 (none, 0)) :: Ass.box 58 a6 (cellsS58 a0 (a5, a3)) :: os) (Ro.sl (Kd.int .i32) a5 a3 a0.f3 :: Ro.sl (Kd.int .i32) (some ⟨B6, 0, none⟩) 1 t9 :: Ro.sl (Kd.slice kS32) b7 b8 b6 :: rs) := hS.re [] [] rfl (sub_cons 1 rfl (sub_cons 0 rfl (sub_tail (sub_tail (sub_self)))))
  obtain ⟨n1, e9, D9, H⟩ := b2_out H
  have hq := confidantref9_went.calls D9 hS
  refine EL.of (EO.callD 56 [ag (cellsS58 a0 (a5, a3)), ia 0, sv (some ⟨B6, 0, none⟩) 1 t9] _ 107 (by kernel_rfl) (by kernel_rfl) (by kernel_rfl) hq ?_)
  rintro v w ⟨i0, j5, rfl, hS⟩
  refine EL.quick 2 [4, 5, 108, 109] [(4, pt a1 0), (5, pt a2 0), (108, ag (cellsS58 e9 (i0, j5))), (109, ag (encS63 n1))] (by kernel_rfl) ?_
  refine EL.of (EO.storeBox (os' := Ass.box 32 a4 [ia a7, ib a8] :: Ass.box 63 a2 (encS63 zS63) :: Ass.box 58 a1 (cellsS58 e9 (i0, j5)) :: Ass.box 58 a6 (cellsS58 a0 (a5, a3)) :: os) hS 2 rfl 58 0 (ag (cellsS58 e9 (i0, j5))) (cellsS58 e9 (i0, j5)) (by kernel_rfl) (by kernel_rfl) (by kernel_rfl) (by kernel_rfl) (by kernel_rfl) (by kernel_rfl) rfl rfl ?_)
  intro w hS
  refine EL.of (EO.storeBox (os' := Ass.box 32 a4 [ia a7, ib a8] :: Ass.box 63 a2 (encS63 n1) :: Ass.box 58 a1 (cellsS58 e9 (i0, j5)) :: Ass.box 58 a6 (cellsS58 a0 (a5, a3)) :: os) hS 1 rfl 63 0 (ag (encS63 n1)) (encS63 n1) (by kernel_rfl) (by kernel_rfl) (by kernel_rfl) (by kernel_rfl) (by kernel_rfl) (by kernel_rfl) rfl rfl ?_)
  intro w hS
  refine EL.done (by kernel_rfl) ?_
  refine EQ.code ?_
  refine EW.ret (by kernel_rfl) ?_
  refine EQ.ret ?_
  refine EQ.ret ?_
  simp only [cellsS58, encS63, Option.some.injEq, Prod.mk.injEq] at H
  obtain ⟨rfl, rfl⟩ := H
  exact EQ.leave2 hS (.cell 4 58) (.cell 5 63) (ag (cellsS58 e9 (i0, j5))) (ag (encS63 n1)) (by kernel_rfl) ⟨2, 58, a1, (cellsS58 e9 (i0, j5)), 0, 12, rfl, (by kernel_rfl), (by kernel_rfl)⟩ ⟨1, 63, a2, (encS63 n1), 0, 3, rfl, (by kernel_rfl), (by kernel_rfl)⟩ ⟨_, rfl, i0, j5, rfl, (hS.re [] [0, 0, 0, 0] rfl (sub_cons 0 rfl (sub_cons 1 rfl (sub_cons 3 rfl (sub_tail (sub_tail (sub_tail (sub_tail (sub_self)))))))))⟩
 rw [if_neg z3] at H
 obtain ⟨x5, F4, H⟩ := lt_out H
 refine EW.ct (fun a w => ∃ t2 : Bool, Sat 218 [(2, pt a6 0), (4, pt a1 0), (5, pt a2 0), (6, pt a4 0), (11, ib a9), (12, ib c3), (86, ia a7), (110, .bool (t2))] a ∧ St B w (Ass.box 32 a4 [ia a7, ib a8] :: Ass.box 63 a2 (encS63 zS63) :: Ass.box 58 a1 (cellsS58 zS58 (none, 0)) :: Ass.box 58 a6 (cellsS58 a0 (a5, a3)) :: os) (Ro.sl (Kd.int .i32) a5 a3 a0.f3 :: Ro.sl (Kd.slice kS32) b7 b8 b6 :: rs) ∧ x5 t2 = some (e3, d9)) (by kernel_rfl) ?_ (fun a w hI => ?_)
 ·refine EW.sq (by kernel_rfl) ?_
  refine EW.rg (by kernel_rfl) ?_
  refine EL.quick 2 [2, 4, 5, 6, 11, 12, 86, 110] [(2, pt a6 0), (4, pt a1 0), (5, pt a2 0), (6, pt a4 0), (11, ib a9), (12, ib c3), (86, ia a7), (110, .bool (decide (a7 = 10)))] (by kernel_rfl) ?_
  refine EL.done (by kernel_rfl) ?_
  refine EQ.code ?_
  refine EW.cdP (a7 = 10) (by kernel_rfl) (by kernel_rfl) (fun v9 => ?_) (fun v9 => ?_)
  ·rw [if_pos v9] at H
   refine EW.keep [2, 4, 5, 6, 11, 12, 86, 110] [(2, pt a6 0), (4, pt a1 0), (5, pt a2 0), (6, pt a4 0), (11, ib a9), (12, ib c3), (86, ia a7), (110, .bool (decide (a7 = 10)))] (by kernel_rfl) ?_
   refine EW.as' [(2, pt a6 0), (4, pt a1 0), (5, pt a2 0), (6, pt a4 0), (11, ib a9), (12, ib c3), (86, ia a7), (110, .bool (true))] (by simp only [cellsS58, encS63, dec_t v9, Bool.not_true, Bool.not_false]) ?_
   refine EW.skip (by kernel_rfl) ?_
   refine EQ.to ?_
   refine EQ.keep [2, 4, 5, 6, 11, 12, 86, 110] [(2, pt a6 0), (4, pt a1 0), (5, pt a2 0), (6, pt a4 0), (11, ib a9), (12, ib c3), (86, ia a7), (110, .bool (true))] (by kernel_rfl) ?_
   exact fun a ha => ⟨true, ha, (hS.re [3, 3, 3, 3] [] rfl (sub_cons 0 rfl (sub_cons 1 rfl (sub_tail (sub_tail (sub_self)))))), H⟩
  rw [if_neg v9] at H
  refine EW.rg (by kernel_rfl) ?_
  refine EL.quick 2 [2, 4, 5, 6, 11, 12, 86, 110] [(2, pt a6 0), (4, pt a1 0), (5, pt a2 0), (6, pt a4 0), (11, ib a9), (12, ib c3), (86, ia a7), (110, .bool (decide (a7 = 11)))] (by kernel_rfl) ?_
  refine EL.done (by kernel_rfl) ?_
  refine EQ.to ?_
  refine EQ.keep [2, 4, 5, 6, 11, 12, 86, 110] [(2, pt a6 0), (4, pt a1 0), (5, pt a2 0), (6, pt a4 0), (11, ib a9), (12, ib c3), (86, ia a7), (110, .bool (decide (a7 = 11)))] (by kernel_rfl) ?_
  exact fun a ha => ⟨decide (a7 = 11), ha, (hS.re [3, 3, 3, 3] [] rfl (sub_cons 0 rfl (sub_cons 1 rfl (sub_tail (sub_tail (sub_self)))))), H⟩
 obtain ⟨t2, ha, hS, H⟩ := hI
 rw [F4] at H
 (try dsimp only at H)
 refine EW.at ?_ a ha
 clear ha a
 refine EW.cdP' (t2) (by kernel_rfl) (by kernel_rfl) (fun z4 => ?_) (fun z4 => ?_)
 ·rw [if_pos z4] at H
  refine EW.sq (by kernel_rfl) ?_
  obtain ⟨d6, t6, H⟩ := b1_out H
  obtain ⟨b5, b0, e2, H⟩ := b2_out H
  refine EW.mt (fun a w => ∃ c5 : Nat, ∃ c4 : Nat, ∃ c6 : Option Addr, ∃ c7 : Nat, Sat 218 [(4, pt a1 0), (5, pt a2 0), (6, pt a4 0), (11, ib a9), (13, pt c4 0), (14, pt c5 0)] a ∧ St B w (Ass.box 63 c5 (encS63 b5) :: Ass.box 58 c4 (cellsS58 b0 (c6, c7)) :: Ass.box 32 a4 [ia a7, ib a8] :: Ass.box 63 a2 (encS63 zS63) :: Ass.box 58 a1 (cellsS58 zS58 (none, 0)) :: Ass.box 58 a6 (cellsS58 a0 (a5, a3)) :: os) (Ro.sl (Kd.int .i32) c6 c7 b0.f3 :: Ro.sl (Kd.int .i32) a5 a3 a0.f3 :: Ro.sl (Kd.int .i32) none 0 ([] : List Int) :: Ro.sl (Kd.slice kS32) b7 b8 b6 :: rs)) (by kernel_rfl) ?_ (fun a w hI => ?_)
  ·have hS := hS.drew
   refine EW.dr (B := B) [Ass.box 32 a4 [ia a7, ib a8], Ass.box 63 a2 (encS63 zS63), Ass.box 58 a1 (cellsS58 zS58 (none, 0)), Ass.box 58 a6 (cellsS58 a0 (a5, a3))] [Ro.sl (Kd.int .i32) a5 a3 a0.f3, Ro.sl (Kd.slice kS32) b7 b8 b6] (by kernel_rfl) (by kernel_rfl) ?_
   have hN : Region.noSelect Cd29.r.r.r.r.r.r.r.r.r.l.r.l.r.r.r.r.r.r.r.l.l.ops = true := (by kernel_rfl)
   have hF : freeAll Cd29.r.r.r.r.r.r.r.r.r.l.r.l.r.r.r.r.r.r.r.l.l.ops = true := (by kernel_rfl)
   have hC : Core B [Ass.box 32 a4 [ia a7, ib a8], Ass.box 63 a2 (encS63 zS63), Ass.box 58 a1 (cellsS58 zS58 (none, 0)), Ass.box 58 a6 (cellsS58 a0 (a5, a3))] [Ro.sl (Kd.int .i32) a5 a3 a0.f3, Ro.sl (Kd.slice kS32) b7 b8 b6] _ := ⟨_, _, hS⟩
   refine ED.quick hN hF hC [1] [2, 4, 5, 6, 11, 115] 11 [(2, pt a6 0), (4, pt a1 0), (5, pt a2 0), (6, pt a4 0), (11, ib a9), (115, pt a4 0)] (bm 12 2) (by kernel_rfl) (by kernel_rfl) ?_
   refine ED.Y hN hF hC 0 10 (bm 12 3) (by kernel_rfl) (by kernel_rfl) rfl (fun _ _ _ hS => YO.loadBox hS 3 rfl 58 0 12 (ag (cellsS58 a0 (a5, a3))) 114 (by kernel_rfl) (by kernel_rfl) (by kernel_rfl) (by kernel_rfl)) ?_
   refine ED.Y hN hF hC 2 9 (bm 12 7) (by kernel_rfl) (by kernel_rfl) rfl (fun _ _ _ hS => YO.loadBox hS 0 rfl 3 0 1 (ia a7) 116 (by kernel_rfl) (by kernel_rfl) (by kernel_rfl) (by kernel_rfl)) ?_
   refine ED.many 3 [8, 9] 8 (by kernel_rfl) (by kernel_rfl) (Each.cons ?_ (Each.cons ?_ (Each.cons ?_ Each.nil)))
   ·have hq := confidantref9_pops.calls t6 hS
    refine EO.callD 55 [ia a7] _ 117 (by kernel_rfl) (by kernel_rfl) (by kernel_rfl) hq ?_
    rintro v w ⟨rfl, hS⟩
    have hC := hC.again ⟨_, _, hS⟩
    refine ⟨hC, ?_⟩
    refine ED.at' (bm 12 15) (by kernel_rfl) ?_
    refine ED.many 4 [8, 9] 7 (by kernel_rfl) (by kernel_rfl) (Each.cons ?_ (Each.cons ?_ (Each.cons ?_ Each.nil)))
    ·have hS := St.nilR hS (Kd.int .i32)
     have hS : St B _ (Ass.box 32 a4 [ia a7, ib a8] :: Ass.box 63 a2 (encS63 zS63) :: Ass.box 58 a1 (cellsS58 zS58 (none, 0)) :: Ass.box 58 a6 (cellsS58 a0 (a5, a3)) :: os) (Ro.sl (Kd.int .i32) a5 a3 a0.f3 :: Ro.sl (Kd.int .i32) none 0 ([] : List Int) :: Ro.sl (Kd.slice kS32) b7 b8 b6 :: rs) := hS.re [] [] rfl (sub_cons 1 rfl (sub_cons 0 rfl (sub_tail (sub_tail (sub_self)))))
     have hq := confidantref9_went.calls e2 hS
     refine EO.callD 56 [ag (cellsS58 a0 (a5, a3)), ia d6, sv none 0 ([] : List Int)] _ 118 (by kernel_rfl) (by kernel_rfl) (by kernel_rfl) hq ?_
     rintro v w ⟨e0, e1, rfl, hS⟩
     have hC := hC.again ⟨_, _, hS.re [3, 3, 3, 3] [] rfl (sub_cons 1 rfl (sub_cons 3 rfl sub_self))⟩
     refine ⟨hC, ?_⟩
     refine ED.at' (bm 12 31) (by kernel_rfl) ?_
     refine ED.quick hN hF hC [5, 6, 7] [4, 5, 6, 11, 119, 120] 4 [(4, pt a1 0), (5, pt a2 0), (6, pt a4 0), (11, ib a9), (119, ag (cellsS58 b0 (e0, e1))), (120, ag (encS63 b5))] (bm 12 255) (by kernel_rfl) (by kernel_rfl) ?_
     refine ED.two 8 9 3 (by kernel_rfl) (by kernel_rfl) ?_ ?_
     ·refine EO.alloc hS 58 (ag (cellsS58 zS58 (none, 0))) (cellsS58 zS58 (none, 0)) 13 (by kernel_rfl) (by kernel_rfl) (by kernel_rfl) (by kernel_rfl) (by first | rfl | kernel_rfl) ?_
      intro u9 w hS
      have hC := hC.again ⟨_, _, hS.re [4, 4, 4, 4] [] rfl (sub_cons 1 rfl (sub_cons 3 rfl sub_self))⟩
      refine ⟨hC, ?_⟩
      refine ED.at' (bm 12 511) (by kernel_rfl) ?_
      refine ED.one 9 2 (bm 12 1023) (by kernel_rfl) (by kernel_rfl) (by kernel_rfl) (EO.alloc hS 63 (ag (encS63 zS63)) (encS63 zS63) 14 (by kernel_rfl) (by kernel_rfl) (by kernel_rfl) (by kernel_rfl) (by first | rfl | kernel_rfl) ?_)
      intro v0 w hS
      have hC := hC.again ⟨_, _, hS.re [5, 5, 5, 5] [] rfl (sub_cons 1 rfl (sub_cons 3 rfl sub_self))⟩
      refine ⟨hC, ?_⟩
      refine ED.one 10 1 (bm 12 2047) (by kernel_rfl) (by kernel_rfl) (by kernel_rfl) (EO.storeBox (os' := Ass.box 63 v0 (encS63 zS63) :: Ass.box 58 u9 (cellsS58 b0 (e0, e1)) :: Ass.box 32 a4 [ia a7, ib a8] :: Ass.box 63 a2 (encS63 zS63) :: Ass.box 58 a1 (cellsS58 zS58 (none, 0)) :: Ass.box 58 a6 (cellsS58 a0 (a5, a3)) :: os) hS 1 rfl 58 0 (ag (cellsS58 b0 (e0, e1))) (cellsS58 b0 (e0, e1)) (by kernel_rfl) (by kernel_rfl) (by kernel_rfl) (by kernel_rfl) (by kernel_rfl) (by kernel_rfl) rfl rfl ?_)
      intro w hS
      have hC := hC.again ⟨_, _, hS.re [5, 5, 5, 5] [] rfl (sub_cons 1 rfl (sub_cons 3 rfl sub_self))⟩
      refine ⟨hC, ?_⟩
      refine ED.one 11 0 (bm 12 4095) (by kernel_rfl) (by kernel_rfl) (by kernel_rfl) (EO.storeBox (os' := Ass.box 63 v0 (encS63 b5) :: Ass.box 58 u9 (cellsS58 b0 (e0, e1)) :: Ass.box 32 a4 [ia a7, ib a8] :: Ass.box 63 a2 (encS63 zS63) :: Ass.box 58 a1 (cellsS58 zS58 (none, 0)) :: Ass.box 58 a6 (cellsS58 a0 (a5, a3)) :: os) hS 0 rfl 63 0 (ag (encS63 b5)) (encS63 b5) (by kernel_rfl) (by kernel_rfl) (by kernel_rfl) (by kernel_rfl) (by kernel_rfl) (by kernel_rfl) rfl rfl ?_)
      intro w hS
      have hC := hC.again ⟨_, _, hS.re [5, 5, 5, 5] [] rfl (sub_cons 1 rfl (sub_cons 3 rfl sub_self))⟩
      refine ⟨hC, ?_⟩
      refine ED.done (by kernel_rfl) ?_
      refine EQ.to ?_
      refine EQ.keep [4, 5, 6, 11, 13, 14] [(4, pt a1 0), (5, pt a2 0), (6, pt a4 0), (11, ib a9), (13, pt u9 0), (14, pt v0 0)] (by kernel_rfl) ?_
      exact fun a ha => ⟨v0, u9, e0, e1, ha, (hS.re [5, 5, 5, 5, 5, 5] [] rfl (sub_cons 0 rfl (sub_cons 1 rfl (sub_cons 2 rfl (sub_cons 3 rfl (sub_tail (sub_tail (sub_tail (sub_tail (sub_self))))))))))⟩
     ·refine EO.alloc hS 63 (ag (encS63 zS63)) (encS63 zS63) 14 (by kernel_rfl) (by kernel_rfl) (by kernel_rfl) (by kernel_rfl) (by first | rfl | kernel_rfl) ?_
      intro v1 w hS
      have hC := hC.again ⟨_, _, hS.re [4, 4, 4, 4] [] rfl (sub_cons 1 rfl (sub_cons 3 rfl sub_self))⟩
      refine ⟨hC, ?_⟩
      refine ED.at' (bm 12 767) (by kernel_rfl) ?_
      refine ED.one 8 2 (bm 12 1023) (by kernel_rfl) (by kernel_rfl) (by kernel_rfl) (EO.alloc hS 58 (ag (cellsS58 zS58 (none, 0))) (cellsS58 zS58 (none, 0)) 13 (by kernel_rfl) (by kernel_rfl) (by kernel_rfl) (by kernel_rfl) (by first | rfl | kernel_rfl) ?_)
      intro v2 w hS
      have hC := hC.again ⟨_, _, hS.re [5, 5, 5, 5] [] rfl (sub_cons 1 rfl (sub_cons 3 rfl sub_self))⟩
      refine ⟨hC, ?_⟩
      refine ED.one 10 1 (bm 12 2047) (by kernel_rfl) (by kernel_rfl) (by kernel_rfl) (EO.storeBox (os' := Ass.box 58 v2 (cellsS58 b0 (e0, e1)) :: Ass.box 63 v1 (encS63 zS63) :: Ass.box 32 a4 [ia a7, ib a8] :: Ass.box 63 a2 (encS63 zS63) :: Ass.box 58 a1 (cellsS58 zS58 (none, 0)) :: Ass.box 58 a6 (cellsS58 a0 (a5, a3)) :: os) hS 0 rfl 58 0 (ag (cellsS58 b0 (e0, e1))) (cellsS58 b0 (e0, e1)) (by kernel_rfl) (by kernel_rfl) (by kernel_rfl) (by kernel_rfl) (by kernel_rfl) (by kernel_rfl) rfl rfl ?_)
      intro w hS
      have hC := hC.again ⟨_, _, hS.re [5, 5, 5, 5] [] rfl (sub_cons 1 rfl (sub_cons 3 rfl sub_self))⟩
      refine ⟨hC, ?_⟩
      refine ED.one 11 0 (bm 12 4095) (by kernel_rfl) (by kernel_rfl) (by kernel_rfl) (EO.storeBox (os' := Ass.box 58 v2 (cellsS58 b0 (e0, e1)) :: Ass.box 63 v1 (encS63 b5) :: Ass.box 32 a4 [ia a7, ib a8] :: Ass.box 63 a2 (encS63 zS63) :: Ass.box 58 a1 (cellsS58 zS58 (none, 0)) :: Ass.box 58 a6 (cellsS58 a0 (a5, a3)) :: os) hS 1 rfl 63 0 (ag (encS63 b5)) (encS63 b5) (by kernel_rfl) (by kernel_rfl) (by kernel_rfl) (by kernel_rfl) (by kernel_rfl) (by kernel_rfl) rfl rfl ?_)
      intro w hS
      have hC := hC.again ⟨_, _, hS.re [5, 5, 5, 5] [] rfl (sub_cons 1 rfl (sub_cons 3 rfl sub_self))⟩
      refine ⟨hC, ?_⟩
      refine ED.done (by kernel_rfl) ?_
      refine EQ.to ?_
      refine EQ.keep [4, 5, 6, 11, 13, 14] [(4, pt a1 0), (5, pt a2 0), (6, pt a4 0), (11, ib a9), (13, pt v2 0), (14, pt v1 0)] (by kernel_rfl) ?_
      exact fun a ha => ⟨v1, v2, e0, e1, ha, (hS.re [5, 5, 5, 5, 4, 5] [] rfl (sub_cons 0 rfl (sub_cons 1 rfl (sub_cons 2 rfl (sub_cons 3 rfl (sub_tail (sub_tail (sub_tail (sub_tail (sub_self))))))))))⟩
    ·refine EO.alloc hS 58 (ag (cellsS58 zS58 (none, 0))) (cellsS58 zS58 (none, 0)) 13 (by kernel_rfl) (by kernel_rfl) (by kernel_rfl) (by kernel_rfl) (by first | rfl | kernel_rfl) ?_
     intro d7 w hS
     have hC := hC.again ⟨_, _, hS.re [4, 4, 4, 4] [] rfl sub_self⟩
     refine ⟨hC, ?_⟩
     refine ED.at' (bm 12 271) (by kernel_rfl) ?_
     refine ED.two 4 9 6 (by kernel_rfl) (by kernel_rfl) ?_ ?_
     ·have hS := St.nilR hS (Kd.int .i32)
      have hS : St B _ (Ass.box 58 d7 (cellsS58 zS58 (none, 0)) :: Ass.box 32 a4 [ia a7, ib a8] :: Ass.box 63 a2 (encS63 zS63) :: Ass.box 58 a1 (cellsS58 zS58 (none, 0)) :: Ass.box 58 a6 (cellsS58 a0 (a5, a3)) :: os) (Ro.sl (Kd.int .i32) a5 a3 a0.f3 :: Ro.sl (Kd.int .i32) none 0 ([] : List Int) :: Ro.sl (Kd.slice kS32) b7 b8 b6 :: rs) := hS.re [] [] rfl (sub_cons 1 rfl (sub_cons 0 rfl (sub_tail (sub_tail (sub_self)))))
      have hq := confidantref9_went.calls e2 hS
      refine EO.callD 56 [ag (cellsS58 a0 (a5, a3)), ia d6, sv none 0 ([] : List Int)] _ 118 (by kernel_rfl) (by kernel_rfl) (by kernel_rfl) hq ?_
      rintro v w ⟨o2, p2, rfl, hS⟩
      have hC := hC.again ⟨_, _, hS.re [4, 4, 4, 4] [] rfl (sub_cons 1 rfl (sub_cons 3 rfl sub_self))⟩
      refine ⟨hC, ?_⟩
      refine ED.at' (bm 12 287) (by kernel_rfl) ?_
      refine ED.quick hN hF hC [5, 6, 7] [4, 5, 6, 11, 13, 119, 120] 3 [(4, pt a1 0), (5, pt a2 0), (6, pt a4 0), (11, ib a9), (13, pt d7 0), (119, ag (cellsS58 b0 (o2, p2))), (120, ag (encS63 b5))] (bm 12 511) (by kernel_rfl) (by kernel_rfl) ?_
      refine ED.one 9 2 (bm 12 1023) (by kernel_rfl) (by kernel_rfl) (by kernel_rfl) (EO.alloc hS 63 (ag (encS63 zS63)) (encS63 zS63) 14 (by kernel_rfl) (by kernel_rfl) (by kernel_rfl) (by kernel_rfl) (by first | rfl | kernel_rfl) ?_)
      intro v3 w hS
      have hC := hC.again ⟨_, _, hS.re [5, 5, 5, 5] [] rfl (sub_cons 1 rfl (sub_cons 3 rfl sub_self))⟩
      refine ⟨hC, ?_⟩
      refine ED.one 10 1 (bm 12 2047) (by kernel_rfl) (by kernel_rfl) (by kernel_rfl) (EO.storeBox (os' := Ass.box 63 v3 (encS63 zS63) :: Ass.box 58 d7 (cellsS58 b0 (o2, p2)) :: Ass.box 32 a4 [ia a7, ib a8] :: Ass.box 63 a2 (encS63 zS63) :: Ass.box 58 a1 (cellsS58 zS58 (none, 0)) :: Ass.box 58 a6 (cellsS58 a0 (a5, a3)) :: os) hS 1 rfl 58 0 (ag (cellsS58 b0 (o2, p2))) (cellsS58 b0 (o2, p2)) (by kernel_rfl) (by kernel_rfl) (by kernel_rfl) (by kernel_rfl) (by kernel_rfl) (by kernel_rfl) rfl rfl ?_)
      intro w hS
      have hC := hC.again ⟨_, _, hS.re [5, 5, 5, 5] [] rfl (sub_cons 1 rfl (sub_cons 3 rfl sub_self))⟩
      refine ⟨hC, ?_⟩
      refine ED.one 11 0 (bm 12 4095) (by kernel_rfl) (by kernel_rfl) (by kernel_rfl) (EO.storeBox (os' := Ass.box 63 v3 (encS63 b5) :: Ass.box 58 d7 (cellsS58 b0 (o2, p2)) :: Ass.box 32 a4 [ia a7, ib a8] :: Ass.box 63 a2 (encS63 zS63) :: Ass.box 58 a1 (cellsS58 zS58 (none, 0)) :: Ass.box 58 a6 (cellsS58 a0 (a5, a3)) :: os) hS 0 rfl 63 0 (ag (encS63 b5)) (encS63 b5) (by kernel_rfl) (by kernel_rfl) (by kernel_rfl) (by kernel_rfl) (by kernel_rfl) (by kernel_rfl) rfl rfl ?_)
      intro w hS
      have hC := hC.again ⟨_, _, hS.re [5, 5, 5, 5] [] rfl (sub_cons 1 rfl (sub_cons 3 rfl sub_self))⟩
      refine ⟨hC, ?_⟩
      refine ED.done (by kernel_rfl) ?_
      refine EQ.to ?_
      refine EQ.keep [4, 5, 6, 11, 13, 14] [(4, pt a1 0), (5, pt a2 0), (6, pt a4 0), (11, ib a9), (13, pt d7 0), (14, pt v3 0)] (by kernel_rfl) ?_
      exact fun a ha => ⟨v3, d7, o2, p2, ha, (hS.re [5, 5, 5, 5, 5, 5] [] rfl (sub_cons 0 rfl (sub_cons 1 rfl (sub_cons 2 rfl (sub_cons 3 rfl (sub_tail (sub_tail (sub_tail (sub_tail (sub_self))))))))))⟩
     ·refine EO.alloc hS 63 (ag (encS63 zS63)) (encS63 zS63) 14 (by kernel_rfl) (by kernel_rfl) (by kernel_rfl) (by kernel_rfl) (by first | rfl | kernel_rfl) ?_
      intro q2 w hS
      have hC := hC.again ⟨_, _, hS.re [5, 5, 5, 5] [] rfl sub_self⟩
      refine ⟨hC, ?_⟩
      refine ED.at' (bm 12 783) (by kernel_rfl) ?_
      have hS := St.nilR hS (Kd.int .i32)
      have hS : St B _ (Ass.box 63 q2 (encS63 zS63) :: Ass.box 58 d7 (cellsS58 zS58 (none, 0)) :: Ass.box 32 a4 [ia a7, ib a8] :: Ass.box 63 a2 (encS63 zS63) :: Ass.box 58 a1 (cellsS58 zS58 (none, 0)) :: Ass.box 58 a6 (cellsS58 a0 (a5, a3)) :: os) (Ro.sl (Kd.int .i32) a5 a3 a0.f3 :: Ro.sl (Kd.int .i32) none 0 ([] : List Int) :: Ro.sl (Kd.slice kS32) b7 b8 b6 :: rs) := hS.re [] [] rfl (sub_cons 1 rfl (sub_cons 0 rfl (sub_tail (sub_tail (sub_self)))))
      have hq := confidantref9_went.calls e2 hS
      refine ED.one 4 5 (bm 12 799) (by kernel_rfl) (by kernel_rfl) (by kernel_rfl) (EO.callD 56 [ag (cellsS58 a0 (a5, a3)), ia d6, sv none 0 ([] : List Int)] _ 118 (by kernel_rfl) (by kernel_rfl) (by kernel_rfl) hq ?_)
      rintro v w ⟨o3, p3, rfl, hS⟩
      have hC := hC.again ⟨_, _, hS.re [5, 5, 5, 5] [] rfl (sub_cons 1 rfl (sub_cons 3 rfl sub_self))⟩
      refine ⟨hC, ?_⟩
      refine ED.quick hN hF hC [5, 6, 7] [4, 5, 6, 11, 13, 14, 119, 120] 2 [(4, pt a1 0), (5, pt a2 0), (6, pt a4 0), (11, ib a9), (13, pt d7 0), (14, pt q2 0), (119, ag (cellsS58 b0 (o3, p3))), (120, ag (encS63 b5))] (bm 12 1023) (by kernel_rfl) (by kernel_rfl) ?_
      refine ED.one 10 1 (bm 12 2047) (by kernel_rfl) (by kernel_rfl) (by kernel_rfl) (EO.storeBox (os' := Ass.box 63 q2 (encS63 zS63) :: Ass.box 58 d7 (cellsS58 b0 (o3, p3)) :: Ass.box 32 a4 [ia a7, ib a8] :: Ass.box 63 a2 (encS63 zS63) :: Ass.box 58 a1 (cellsS58 zS58 (none, 0)) :: Ass.box 58 a6 (cellsS58 a0 (a5, a3)) :: os) hS 1 rfl 58 0 (ag (cellsS58 b0 (o3, p3))) (cellsS58 b0 (o3, p3)) (by kernel_rfl) (by kernel_rfl) (by kernel_rfl) (by kernel_rfl) (by kernel_rfl) (by kernel_rfl) rfl rfl ?_)
      intro w hS
      have hC := hC.again ⟨_, _, hS.re [5, 5, 5, 5] [] rfl (sub_cons 1 rfl (sub_cons 3 rfl sub_self))⟩
      refine ⟨hC, ?_⟩
      refine ED.one 11 0 (bm 12 4095) (by kernel_rfl) (by kernel_rfl) (by kernel_rfl) (EO.storeBox (os' := Ass.box 63 q2 (encS63 b5) :: Ass.box 58 d7 (cellsS58 b0 (o3, p3)) :: Ass.box 32 a4 [ia a7, ib a8] :: Ass.box 63 a2 (encS63 zS63) :: Ass.box 58 a1 (cellsS58 zS58 (none, 0)) :: Ass.box 58 a6 (cellsS58 a0 (a5, a3)) :: os) hS 0 rfl 63 0 (ag (encS63 b5)) (encS63 b5) (by kernel_rfl) (by kernel_rfl) (by kernel_rfl) (by kernel_rfl) (by kernel_rfl) (by kernel_rfl) rfl rfl ?_)
      intro w hS
      have hC := hC.again ⟨_, _, hS.re [5, 5, 5, 5] [] rfl (sub_cons 1 rfl (sub_cons 3 rfl sub_self))⟩
      refine ⟨hC, ?_⟩
      refine ED.done (by kernel_rfl) ?_
      refine EQ.to ?_
      refine EQ.keep [4, 5, 6, 11, 13, 14] [(4, pt a1 0), (5, pt a2 0), (6, pt a4 0), (11, ib a9), (13, pt d7 0), (14, pt q2 0)] (by kernel_rfl) ?_
      exact fun a ha => ⟨q2, d7, o3, p3, ha, (hS.re [5, 5, 5, 5, 5, 5] [] rfl (sub_cons 0 rfl (sub_cons 1 rfl (sub_cons 2 rfl (sub_cons 3 rfl (sub_tail (sub_tail (sub_tail (sub_tail (sub_self))))))))))⟩
    ·refine EO.alloc hS 63 (ag (encS63 zS63)) (encS63 zS63) 14 (by kernel_rfl) (by kernel_rfl) (by kernel_rfl) (by kernel_rfl) (by first | rfl | kernel_rfl) ?_
     intro d8 w hS
     have hC := hC.again ⟨_, _, hS.re [4, 4, 4, 4] [] rfl sub_self⟩
     refine ⟨hC, ?_⟩
     refine ED.at' (bm 12 527) (by kernel_rfl) ?_
     refine ED.two 4 8 6 (by kernel_rfl) (by kernel_rfl) ?_ ?_
     ·have hS := St.nilR hS (Kd.int .i32)
      have hS : St B _ (Ass.box 63 d8 (encS63 zS63) :: Ass.box 32 a4 [ia a7, ib a8] :: Ass.box 63 a2 (encS63 zS63) :: Ass.box 58 a1 (cellsS58 zS58 (none, 0)) :: Ass.box 58 a6 (cellsS58 a0 (a5, a3)) :: os) (Ro.sl (Kd.int .i32) a5 a3 a0.f3 :: Ro.sl (Kd.int .i32) none 0 ([] : List Int) :: Ro.sl (Kd.slice kS32) b7 b8 b6 :: rs) := hS.re [] [] rfl (sub_cons 1 rfl (sub_cons 0 rfl (sub_tail (sub_tail (sub_self)))))
      have hq := confidantref9_went.calls e2 hS
      refine EO.callD 56 [ag (cellsS58 a0 (a5, a3)), ia d6, sv none 0 ([] : List Int)] _ 118 (by kernel_rfl) (by kernel_rfl) (by kernel_rfl) hq ?_
      rintro v w ⟨o4, p4, rfl, hS⟩
      have hC := hC.again ⟨_, _, hS.re [4, 4, 4, 4] [] rfl (sub_cons 1 rfl (sub_cons 3 rfl sub_self))⟩
      refine ⟨hC, ?_⟩
      refine ED.at' (bm 12 543) (by kernel_rfl) ?_
      refine ED.quick hN hF hC [5, 6, 7] [4, 5, 6, 11, 14, 119, 120] 3 [(4, pt a1 0), (5, pt a2 0), (6, pt a4 0), (11, ib a9), (14, pt d8 0), (119, ag (cellsS58 b0 (o4, p4))), (120, ag (encS63 b5))] (bm 12 767) (by kernel_rfl) (by kernel_rfl) ?_
      refine ED.one 8 2 (bm 12 1023) (by kernel_rfl) (by kernel_rfl) (by kernel_rfl) (EO.alloc hS 58 (ag (cellsS58 zS58 (none, 0))) (cellsS58 zS58 (none, 0)) 13 (by kernel_rfl) (by kernel_rfl) (by kernel_rfl) (by kernel_rfl) (by first | rfl | kernel_rfl) ?_)
      intro v4 w hS
      have hC := hC.again ⟨_, _, hS.re [5, 5, 5, 5] [] rfl (sub_cons 1 rfl (sub_cons 3 rfl sub_self))⟩
      refine ⟨hC, ?_⟩
      refine ED.one 10 1 (bm 12 2047) (by kernel_rfl) (by kernel_rfl) (by kernel_rfl) (EO.storeBox (os' := Ass.box 58 v4 (cellsS58 b0 (o4, p4)) :: Ass.box 63 d8 (encS63 zS63) :: Ass.box 32 a4 [ia a7, ib a8] :: Ass.box 63 a2 (encS63 zS63) :: Ass.box 58 a1 (cellsS58 zS58 (none, 0)) :: Ass.box 58 a6 (cellsS58 a0 (a5, a3)) :: os) hS 0 rfl 58 0 (ag (cellsS58 b0 (o4, p4))) (cellsS58 b0 (o4, p4)) (by kernel_rfl) (by kernel_rfl) (by kernel_rfl) (by kernel_rfl) (by kernel_rfl) (by kernel_rfl) rfl rfl ?_)
      intro w hS
      have hC := hC.again ⟨_, _, hS.re [5, 5, 5, 5] [] rfl (sub_cons 1 rfl (sub_cons 3 rfl sub_self))⟩
      refine ⟨hC, ?_⟩
      refine ED.one 11 0 (bm 12 4095) (by kernel_rfl) (by kernel_rfl) (by kernel_rfl) (EO.storeBox (os' := Ass.box 58 v4 (cellsS58 b0 (o4, p4)) :: Ass.box 63 d8 (encS63 b5) :: Ass.box 32 a4 [ia a7, ib a8] :: Ass.box 63 a2 (encS63 zS63) :: Ass.box 58 a1 (cellsS58 zS58 (none, 0)) :: Ass.box 58 a6 (cellsS58 a0 (a5, a3)) :: os) hS 1 rfl 63 0 (ag (encS63 b5)) (encS63 b5) (by kernel_rfl) (by kernel_rfl) (by kernel_rfl) (by kernel_rfl) (by kernel_rfl) (by kernel_rfl) rfl rfl ?_)
      intro w hS
      have hC := hC.again ⟨_, _, hS.re [5, 5, 5, 5] [] rfl (sub_cons 1 rfl (sub_cons 3 rfl sub_self))⟩
      refine ⟨hC, ?_⟩
      refine ED.done (by kernel_rfl) ?_
      refine EQ.to ?_
      refine EQ.keep [4, 5, 6, 11, 13, 14] [(4, pt a1 0), (5, pt a2 0), (6, pt a4 0), (11, ib a9), (13, pt v4 0), (14, pt d8 0)] (by kernel_rfl) ?_
      exact fun a ha => ⟨d8, v4, o4, p4, ha, (hS.re [5, 5, 5, 5, 4, 5] [] rfl (sub_cons 0 rfl (sub_cons 1 rfl (sub_cons 2 rfl (sub_cons 3 rfl (sub_tail (sub_tail (sub_tail (sub_tail (sub_self))))))))))⟩
     ·refine EO.alloc hS 58 (ag (cellsS58 zS58 (none, 0))) (cellsS58 zS58 (none, 0)) 13 (by kernel_rfl) (by kernel_rfl) (by kernel_rfl) (by kernel_rfl) (by first | rfl | kernel_rfl) ?_
      intro q3 w hS
      have hC := hC.again ⟨_, _, hS.re [5, 5, 5, 5] [] rfl sub_self⟩
      refine ⟨hC, ?_⟩
      refine ED.at' (bm 12 783) (by kernel_rfl) ?_
      have hS := St.nilR hS (Kd.int .i32)
      have hS : St B _ (Ass.box 58 q3 (cellsS58 zS58 (none, 0)) :: Ass.box 63 d8 (encS63 zS63) :: Ass.box 32 a4 [ia a7, ib a8] :: Ass.box 63 a2 (encS63 zS63) :: Ass.box 58 a1 (cellsS58 zS58 (none, 0)) :: Ass.box 58 a6 (cellsS58 a0 (a5, a3)) :: os) (Ro.sl (Kd.int .i32) a5 a3 a0.f3 :: Ro.sl (Kd.int .i32) none 0 ([] : List Int) :: Ro.sl (Kd.slice kS32) b7 b8 b6 :: rs) := hS.re [] [] rfl (sub_cons 1 rfl (sub_cons 0 rfl (sub_tail (sub_tail (sub_self)))))
      have hq := confidantref9_went.calls e2 hS
      refine ED.one 4 5 (bm 12 799) (by kernel_rfl) (by kernel_rfl) (by kernel_rfl) (EO.callD 56 [ag (cellsS58 a0 (a5, a3)), ia d6, sv none 0 ([] : List Int)] _ 118 (by kernel_rfl) (by kernel_rfl) (by kernel_rfl) hq ?_)
      rintro v w ⟨o5, p5, rfl, hS⟩
      have hC := hC.again ⟨_, _, hS.re [5, 5, 5, 5] [] rfl (sub_cons 1 rfl (sub_cons 3 rfl sub_self))⟩
      refine ⟨hC, ?_⟩
      refine ED.quick hN hF hC [5, 6, 7] [4, 5, 6, 11, 13, 14, 119, 120] 2 [(4, pt a1 0), (5, pt a2 0), (6, pt a4 0), (11, ib a9), (13, pt q3 0), (14, pt d8 0), (119, ag (cellsS58 b0 (o5, p5))), (120, ag (encS63 b5))] (bm 12 1023) (by kernel_rfl) (by kernel_rfl) ?_
      refine ED.one 10 1 (bm 12 2047) (by kernel_rfl) (by kernel_rfl) (by kernel_rfl) (EO.storeBox (os' := Ass.box 58 q3 (cellsS58 b0 (o5, p5)) :: Ass.box 63 d8 (encS63 zS63) :: Ass.box 32 a4 [ia a7, ib a8] :: Ass.box 63 a2 (encS63 zS63) :: Ass.box 58 a1 (cellsS58 zS58 (none, 0)) :: Ass.box 58 a6 (cellsS58 a0 (a5, a3)) :: os) hS 0 rfl 58 0 (ag (cellsS58 b0 (o5, p5))) (cellsS58 b0 (o5, p5)) (by kernel_rfl) (by kernel_rfl) (by kernel_rfl) (by kernel_rfl) (by kernel_rfl) (by kernel_rfl) rfl rfl ?_)
      intro w hS
      have hC := hC.again ⟨_, _, hS.re [5, 5, 5, 5] [] rfl (sub_cons 1 rfl (sub_cons 3 rfl sub_self))⟩
      refine ⟨hC, ?_⟩
      refine ED.one 11 0 (bm 12 4095) (by kernel_rfl) (by kernel_rfl) (by kernel_rfl) (EO.storeBox (os' := Ass.box 58 q3 (cellsS58 b0 (o5, p5)) :: Ass.box 63 d8 (encS63 b5) :: Ass.box 32 a4 [ia a7, ib a8] :: Ass.box 63 a2 (encS63 zS63) :: Ass.box 58 a1 (cellsS58 zS58 (none, 0)) :: Ass.box 58 a6 (cellsS58 a0 (a5, a3)) :: os) hS 1 rfl 63 0 (ag (encS63 b5)) (encS63 b5) (by kernel_rfl) (by kernel_rfl) (by kernel_rfl) (by kernel_rfl) (by kernel_rfl) (by kernel_rfl) rfl rfl ?_)
      intro w hS
      have hC := hC.again ⟨_, _, hS.re [5, 5, 5, 5] [] rfl (sub_cons 1 rfl (sub_cons 3 rfl sub_self))⟩
      refine ⟨hC, ?_⟩
      refine ED.done (by kernel_rfl) ?_
      refine EQ.to ?_
      refine EQ.keep [4, 5, 6, 11, 13, 14] [(4, pt a1 0), (5, pt a2 0), (6, pt a4 0), (11, ib a9), (13, pt q3 0), (14, pt d8 0)] (by kernel_rfl) ?_
      exact fun a ha => ⟨d8, q3, o5, p5, ha, (hS.re [5, 5, 5, 5, 4, 5] [] rfl (sub_cons 0 rfl (sub_cons 1 rfl (sub_cons 2 rfl (sub_cons 3 rfl (sub_tail (sub_tail (sub_tail (sub_tail (sub_self))))))))))⟩
   ·refine EO.alloc hS 58 (ag (cellsS58 zS58 (none, 0))) (cellsS58 zS58 (none, 0)) 13 (by kernel_rfl) (by kernel_rfl) (by kernel_rfl) (by kernel_rfl) (by first | rfl | kernel_rfl) ?_
    intro c9 w hS
    have hC := hC.again ⟨_, _, hS.re [4, 4, 4, 4] [] rfl sub_self⟩
    refine ⟨hC, ?_⟩
    refine ED.at' (bm 12 263) (by kernel_rfl) ?_
    refine ED.two 3 9 7 (by kernel_rfl) (by kernel_rfl) ?_ ?_
    ·have hq := confidantref9_pops.calls t6 hS
     refine EO.callD 55 [ia a7] _ 117 (by kernel_rfl) (by kernel_rfl) (by kernel_rfl) hq ?_
     rintro v w ⟨rfl, hS⟩
     have hC := hC.again ⟨_, _, hS.re [4, 4, 4, 4] [] rfl sub_self⟩
     refine ⟨hC, ?_⟩
     refine ED.at' (bm 12 271) (by kernel_rfl) ?_
     refine ED.two 4 9 6 (by kernel_rfl) (by kernel_rfl) ?_ ?_
     ·have hS := St.nilR hS (Kd.int .i32)
      have hS : St B _ (Ass.box 58 c9 (cellsS58 zS58 (none, 0)) :: Ass.box 32 a4 [ia a7, ib a8] :: Ass.box 63 a2 (encS63 zS63) :: Ass.box 58 a1 (cellsS58 zS58 (none, 0)) :: Ass.box 58 a6 (cellsS58 a0 (a5, a3)) :: os) (Ro.sl (Kd.int .i32) a5 a3 a0.f3 :: Ro.sl (Kd.int .i32) none 0 ([] : List Int) :: Ro.sl (Kd.slice kS32) b7 b8 b6 :: rs) := hS.re [] [] rfl (sub_cons 1 rfl (sub_cons 0 rfl (sub_tail (sub_tail (sub_self)))))
      have hq := confidantref9_went.calls e2 hS
      refine EO.callD 56 [ag (cellsS58 a0 (a5, a3)), ia d6, sv none 0 ([] : List Int)] _ 118 (by kernel_rfl) (by kernel_rfl) (by kernel_rfl) hq ?_
      rintro v w ⟨o6, p6, rfl, hS⟩
      have hC := hC.again ⟨_, _, hS.re [4, 4, 4, 4] [] rfl (sub_cons 1 rfl (sub_cons 3 rfl sub_self))⟩
      refine ⟨hC, ?_⟩
      refine ED.at' (bm 12 287) (by kernel_rfl) ?_
      refine ED.quick hN hF hC [5, 6, 7] [4, 5, 6, 11, 13, 119, 120] 3 [(4, pt a1 0), (5, pt a2 0), (6, pt a4 0), (11, ib a9), (13, pt c9 0), (119, ag (cellsS58 b0 (o6, p6))), (120, ag (encS63 b5))] (bm 12 511) (by kernel_rfl) (by kernel_rfl) ?_
      refine ED.one 9 2 (bm 12 1023) (by kernel_rfl) (by kernel_rfl) (by kernel_rfl) (EO.alloc hS 63 (ag (encS63 zS63)) (encS63 zS63) 14 (by kernel_rfl) (by kernel_rfl) (by kernel_rfl) (by kernel_rfl) (by first | rfl | kernel_rfl) ?_)
      intro v5 w hS
      have hC := hC.again ⟨_, _, hS.re [5, 5, 5, 5] [] rfl (sub_cons 1 rfl (sub_cons 3 rfl sub_self))⟩
      refine ⟨hC, ?_⟩
      refine ED.one 10 1 (bm 12 2047) (by kernel_rfl) (by kernel_rfl) (by kernel_rfl) (EO.storeBox (os' := Ass.box 63 v5 (encS63 zS63) :: Ass.box 58 c9 (cellsS58 b0 (o6, p6)) :: Ass.box 32 a4 [ia a7, ib a8] :: Ass.box 63 a2 (encS63 zS63) :: Ass.box 58 a1 (cellsS58 zS58 (none, 0)) :: Ass.box 58 a6 (cellsS58 a0 (a5, a3)) :: os) hS 1 rfl 58 0 (ag (cellsS58 b0 (o6, p6))) (cellsS58 b0 (o6, p6)) (by kernel_rfl) (by kernel_rfl) (by kernel_rfl) (by kernel_rfl) (by kernel_rfl) (by kernel_rfl) rfl rfl ?_)
      intro w hS
      have hC := hC.again ⟨_, _, hS.re [5, 5, 5, 5] [] rfl (sub_cons 1 rfl (sub_cons 3 rfl sub_self))⟩
      refine ⟨hC, ?_⟩
      refine ED.one 11 0 (bm 12 4095) (by kernel_rfl) (by kernel_rfl) (by kernel_rfl) (EO.storeBox (os' := Ass.box 63 v5 (encS63 b5) :: Ass.box 58 c9 (cellsS58 b0 (o6, p6)) :: Ass.box 32 a4 [ia a7, ib a8] :: Ass.box 63 a2 (encS63 zS63) :: Ass.box 58 a1 (cellsS58 zS58 (none, 0)) :: Ass.box 58 a6 (cellsS58 a0 (a5, a3)) :: os) hS 0 rfl 63 0 (ag (encS63 b5)) (encS63 b5) (by kernel_rfl) (by kernel_rfl) (by kernel_rfl) (by kernel_rfl) (by kernel_rfl) (by kernel_rfl) rfl rfl ?_)
      intro w hS
      have hC := hC.again ⟨_, _, hS.re [5, 5, 5, 5] [] rfl (sub_cons 1 rfl (sub_cons 3 rfl sub_self))⟩
      refine ⟨hC, ?_⟩
      refine ED.done (by kernel_rfl) ?_
      refine EQ.to ?_
      refine EQ.keep [4, 5, 6, 11, 13, 14] [(4, pt a1 0), (5, pt a2 0), (6, pt a4 0), (11, ib a9), (13, pt c9 0), (14, pt v5 0)] (by kernel_rfl) ?_
      exact fun a ha => ⟨v5, c9, o6, p6, ha, (hS.re [5, 5, 5, 5, 5, 5] [] rfl (sub_cons 0 rfl (sub_cons 1 rfl (sub_cons 2 rfl (sub_cons 3 rfl (sub_tail (sub_tail (sub_tail (sub_tail (sub_self))))))))))⟩
     ·refine EO.alloc hS 63 (ag (encS63 zS63)) (encS63 zS63) 14 (by kernel_rfl) (by kernel_rfl) (by kernel_rfl) (by kernel_rfl) (by first | rfl | kernel_rfl) ?_
      intro q4 w hS
      have hC := hC.again ⟨_, _, hS.re [5, 5, 5, 5] [] rfl sub_self⟩
      refine ⟨hC, ?_⟩
      refine ED.at' (bm 12 783) (by kernel_rfl) ?_
      have hS := St.nilR hS (Kd.int .i32)
      have hS : St B _ (Ass.box 63 q4 (encS63 zS63) :: Ass.box 58 c9 (cellsS58 zS58 (none, 0)) :: Ass.box 32 a4 [ia a7, ib a8] :: Ass.box 63 a2 (encS63 zS63) :: Ass.box 58 a1 (cellsS58 zS58 (none, 0)) :: Ass.box 58 a6 (cellsS58 a0 (a5, a3)) :: os) (Ro.sl (Kd.int .i32) a5 a3 a0.f3 :: Ro.sl (Kd.int .i32) none 0 ([] : List Int) :: Ro.sl (Kd.slice kS32) b7 b8 b6 :: rs) := hS.re [] [] rfl (sub_cons 1 rfl (sub_cons 0 rfl (sub_tail (sub_tail (sub_self)))))
      have hq := confidantref9_went.calls e2 hS
      refine ED.one 4 5 (bm 12 799) (by kernel_rfl) (by kernel_rfl) (by kernel_rfl) (EO.callD 56 [ag (cellsS58 a0 (a5, a3)), ia d6, sv none 0 ([] : List Int)] _ 118 (by kernel_rfl) (by kernel_rfl) (by kernel_rfl) hq ?_)
      rintro v w ⟨o7, p7, rfl, hS⟩
      have hC := hC.again ⟨_, _, hS.re [5, 5, 5, 5] [] rfl (sub_cons 1 rfl (sub_cons 3 rfl sub_self))⟩
      refine ⟨hC, ?_⟩
      refine ED.quick hN hF hC [5, 6, 7] [4, 5, 6, 11, 13, 14, 119, 120] 2 [(4, pt a1 0), (5, pt a2 0), (6, pt a4 0), (11, ib a9), (13, pt c9 0), (14, pt q4 0), (119, ag (cellsS58 b0 (o7, p7))), (120, ag (encS63 b5))] (bm 12 1023) (by kernel_rfl) (by kernel_rfl) ?_
      refine ED.one 10 1 (bm 12 2047) (by kernel_rfl) (by kernel_rfl) (by kernel_rfl) (EO.storeBox (os' := Ass.box 63 q4 (encS63 zS63) :: Ass.box 58 c9 (cellsS58 b0 (o7, p7)) :: Ass.box 32 a4 [ia a7, ib a8] :: Ass.box 63 a2 (encS63 zS63) :: Ass.box 58 a1 (cellsS58 zS58 (none, 0)) :: Ass.box 58 a6 (cellsS58 a0 (a5, a3)) :: os) hS 1 rfl 58 0 (ag (cellsS58 b0 (o7, p7))) (cellsS58 b0 (o7, p7)) (by kernel_rfl) (by kernel_rfl) (by kernel_rfl) (by kernel_rfl) (by kernel_rfl) (by kernel_rfl) rfl rfl ?_)
      intro w hS
      have hC := hC.again ⟨_, _, hS.re [5, 5, 5, 5] [] rfl (sub_cons 1 rfl (sub_cons 3 rfl sub_self))⟩
      refine ⟨hC, ?_⟩
      refine ED.one 11 0 (bm 12 4095) (by kernel_rfl) (by kernel_rfl) (by kernel_rfl) (EO.storeBox (os' := Ass.box 63 q4 (encS63 b5) :: Ass.box 58 c9 (cellsS58 b0 (o7, p7)) :: Ass.box 32 a4 [ia a7, ib a8] :: Ass.box 63 a2 (encS63 zS63) :: Ass.box 58 a1 (cellsS58 zS58 (none, 0)) :: Ass.box 58 a6 (cellsS58 a0 (a5, a3)) :: os) hS 0 rfl 63 0 (ag (encS63 b5)) (encS63 b5) (by kernel_rfl) (by kernel_rfl) (by kernel_rfl) (by kernel_rfl) (by kernel_rfl) (by kernel_rfl) rfl rfl ?_)
      intro w hS
      have hC := hC.again ⟨_, _, hS.re [5, 5, 5, 5] [] rfl (sub_cons 1 rfl (sub_cons 3 rfl sub_self))⟩
      refine ⟨hC, ?_⟩
      refine ED.done (by kernel_rfl) ?_
      refine EQ.to ?_
      refine EQ.keep [4, 5, 6, 11, 13, 14] [(4, pt a1 0), (5, pt a2 0), (6, pt a4 0), (11, ib a9), (13, pt c9 0), (14, pt q4 0)] (by kernel_rfl) ?_
      exact fun a ha => ⟨q4, c9, o7, p7, ha, (hS.re [5, 5, 5, 5, 5, 5] [] rfl (sub_cons 0 rfl (sub_cons 1 rfl (sub_cons 2 rfl (sub_cons 3 rfl (sub_tail (sub_tail (sub_tail (sub_tail (sub_self))))))))))⟩
    ·refine EO.alloc hS 63 (ag (encS63 zS63)) (encS63 zS63) 14 (by kernel_rfl) (by kernel_rfl) (by kernel_rfl) (by kernel_rfl) (by first | rfl | kernel_rfl) ?_
     intro q5 w hS
     have hC := hC.again ⟨_, _, hS.re [5, 5, 5, 5] [] rfl sub_self⟩
     refine ⟨hC, ?_⟩
     refine ED.at' (bm 12 775) (by kernel_rfl) ?_
     have hq := confidantref9_pops.calls t6 hS
     refine ED.one 3 6 (bm 12 783) (by kernel_rfl) (by kernel_rfl) (by kernel_rfl) (EO.callD 55 [ia a7] _ 117 (by kernel_rfl) (by kernel_rfl) (by kernel_rfl) hq ?_)
     rintro v w ⟨rfl, hS⟩
     have hC := hC.again ⟨_, _, hS.re [5, 5, 5, 5] [] rfl sub_self⟩
     refine ⟨hC, ?_⟩
     have hS := St.nilR hS (Kd.int .i32)
     have hS : St B _ (Ass.box 63 q5 (encS63 zS63) :: Ass.box 58 c9 (cellsS58 zS58 (none, 0)) :: Ass.box 32 a4 [ia a7, ib a8] :: Ass.box 63 a2 (encS63 zS63) :: Ass.box 58 a1 (cellsS58 zS58 (none, 0)) :: Ass.box 58 a6 (cellsS58 a0 (a5, a3)) :: os) (Ro.sl (Kd.int .i32) a5 a3 a0.f3 :: Ro.sl (Kd.int .i32) none 0 ([] : List Int) :: Ro.sl (Kd.slice kS32) b7 b8 b6 :: rs) := hS.re [] [] rfl (sub_cons 1 rfl (sub_cons 0 rfl (sub_tail (sub_tail (sub_self)))))
     have hq := confidantref9_went.calls e2 hS
     refine ED.one 4 5 (bm 12 799) (by kernel_rfl) (by kernel_rfl) (by kernel_rfl) (EO.callD 56 [ag (cellsS58 a0 (a5, a3)), ia d6, sv none 0 ([] : List Int)] _ 118 (by kernel_rfl) (by kernel_rfl) (by kernel_rfl) hq ?_)
     rintro v w ⟨o8, p8, rfl, hS⟩
     have hC := hC.again ⟨_, _, hS.re [5, 5, 5, 5] [] rfl (sub_cons 1 rfl (sub_cons 3 rfl sub_self))⟩
     refine ⟨hC, ?_⟩
     refine ED.quick hN hF hC [5, 6, 7] [4, 5, 6, 11, 13, 14, 119, 120] 2 [(4, pt a1 0), (5, pt a2 0), (6, pt a4 0), (11, ib a9), (13, pt c9 0), (14, pt q5 0), (119, ag (cellsS58 b0 (o8, p8))), (120, ag (encS63 b5))] (bm 12 1023) (by kernel_rfl) (by kernel_rfl) ?_
     refine ED.one 10 1 (bm 12 2047) (by kernel_rfl) (by kernel_rfl) (by kernel_rfl) (EO.storeBox (os' := Ass.box 63 q5 (encS63 zS63) :: Ass.box 58 c9 (cellsS58 b0 (o8, p8)) :: Ass.box 32 a4 [ia a7, ib a8] :: Ass.box 63 a2 (encS63 zS63) :: Ass.box 58 a1 (cellsS58 zS58 (none, 0)) :: Ass.box 58 a6 (cellsS58 a0 (a5, a3)) :: os) hS 1 rfl 58 0 (ag (cellsS58 b0 (o8, p8))) (cellsS58 b0 (o8, p8)) (by kernel_rfl) (by kernel_rfl) (by kernel_rfl) (by kernel_rfl) (by kernel_rfl) (by kernel_rfl) rfl rfl ?_)
     intro w hS
     have hC := hC.again ⟨_, _, hS.re [5, 5, 5, 5] [] rfl (sub_cons 1 rfl (sub_cons 3 rfl sub_self))⟩
     refine ⟨hC, ?_⟩
     refine ED.one 11 0 (bm 12 4095) (by kernel_rfl) (by kernel_rfl) (by kernel_rfl) (EO.storeBox (os' := Ass.box 63 q5 (encS63 b5) :: Ass.box 58 c9 (cellsS58 b0 (o8, p8)) :: Ass.box 32 a4 [ia a7, ib a8] :: Ass.box 63 a2 (encS63 zS63) :: Ass.box 58 a1 (cellsS58 zS58 (none, 0)) :: Ass.box 58 a6 (cellsS58 a0 (a5, a3)) :: os) hS 0 rfl 63 0 (ag (encS63 b5)) (encS63 b5) (by kernel_rfl) (by kernel_rfl) (by kernel_rfl) (by kernel_rfl) (by kernel_rfl) (by kernel_rfl) rfl rfl ?_)
     intro w hS
     have hC := hC.again ⟨_, _, hS.re [5, 5, 5, 5] [] rfl (sub_cons 1 rfl (sub_cons 3 rfl sub_self))⟩
     refine ⟨hC, ?_⟩
     refine ED.done (by kernel_rfl) ?_
     refine EQ.to ?_
     refine EQ.keep [4, 5, 6, 11, 13, 14] [(4, pt a1 0), (5, pt a2 0), (6, pt a4 0), (11, ib a9), (13, pt c9 0), (14, pt q5 0)] (by kernel_rfl) ?_
     exact fun a ha => ⟨q5, c9, o8, p8, ha, (hS.re [5, 5, 5, 5, 5, 5] [] rfl (sub_cons 0 rfl (sub_cons 1 rfl (sub_cons 2 rfl (sub_cons 3 rfl (sub_tail (sub_tail (sub_tail (sub_tail (sub_self))))))))))⟩
   ·refine EO.alloc hS 63 (ag (encS63 zS63)) (encS63 zS63) 14 (by kernel_rfl) (by kernel_rfl) (by kernel_rfl) (by kernel_rfl) (by first | rfl | kernel_rfl) ?_
    intro d0 w hS
    have hC := hC.again ⟨_, _, hS.re [4, 4, 4, 4] [] rfl sub_self⟩
    refine ⟨hC, ?_⟩
    refine ED.at' (bm 12 519) (by kernel_rfl) ?_
    refine ED.two 3 8 7 (by kernel_rfl) (by kernel_rfl) ?_ ?_
    ·have hq := confidantref9_pops.calls t6 hS
     refine EO.callD 55 [ia a7] _ 117 (by kernel_rfl) (by kernel_rfl) (by kernel_rfl) hq ?_
     rintro v w ⟨rfl, hS⟩
     have hC := hC.again ⟨_, _, hS.re [4, 4, 4, 4] [] rfl sub_self⟩
     refine ⟨hC, ?_⟩
     refine ED.at' (bm 12 527) (by kernel_rfl) ?_
     refine ED.two 4 8 6 (by kernel_rfl) (by kernel_rfl) ?_ ?_
     ·have hS := St.nilR hS (Kd.int .i32)
      have hS : St B _ (Ass.box 63 d0 (encS63 zS63) :: Ass.box 32 a4 [ia a7, ib a8] :: Ass.box 63 a2 (encS63 zS63) :: Ass.box 58 a1 (cellsS58 zS58 (none, 0)) :: Ass.box 58 a6 (cellsS58 a0 (a5, a3)) :: os) (Ro.sl (Kd.int .i32) a5 a3 a0.f3 :: Ro.sl (Kd.int .i32) none 0 ([] : List Int) :: Ro.sl (Kd.slice kS32) b7 b8 b6 :: rs) := hS.re [] [] rfl (sub_cons 1 rfl (sub_cons 0 rfl (sub_tail (sub_tail (sub_self)))))
      have hq := confidantref9_went.calls e2 hS
      refine EO.callD 56 [ag (cellsS58 a0 (a5, a3)), ia d6, sv none 0 ([] : List Int)] _ 118 (by kernel_rfl) (by kernel_rfl) (by kernel_rfl) hq ?_
      rintro v w ⟨o9, p9, rfl, hS⟩
      have hC := hC.again ⟨_, _, hS.re [4, 4, 4, 4] [] rfl (sub_cons 1 rfl (sub_cons 3 rfl sub_self))⟩
      refine ⟨hC, ?_⟩
      refine ED.at' (bm 12 543) (by kernel_rfl) ?_
      refine ED.quick hN hF hC [5, 6, 7] [4, 5, 6, 11, 14, 119, 120] 3 [(4, pt a1 0), (5, pt a2 0), (6, pt a4 0), (11, ib a9), (14, pt d0 0), (119, ag (cellsS58 b0 (o9, p9))), (120, ag (encS63 b5))] (bm 12 767) (by kernel_rfl) (by kernel_rfl) ?_
      refine ED.one 8 2 (bm 12 1023) (by kernel_rfl) (by kernel_rfl) (by kernel_rfl) (EO.alloc hS 58 (ag (cellsS58 zS58 (none, 0))) (cellsS58 zS58 (none, 0)) 13 (by kernel_rfl) (by kernel_rfl) (by kernel_rfl) (by kernel_rfl) (by first | rfl | kernel_rfl) ?_)
      intro v6 w hS
      have hC := hC.again ⟨_, _, hS.re [5, 5, 5, 5] [] rfl (sub_cons 1 rfl (sub_cons 3 rfl sub_self))⟩
      refine ⟨hC, ?_⟩
      refine ED.one 10 1 (bm 12 2047) (by kernel_rfl) (by kernel_rfl) (by kernel_rfl) (EO.storeBox (os' := Ass.box 58 v6 (cellsS58 b0 (o9, p9)) :: Ass.box 63 d0 (encS63 zS63) :: Ass.box 32 a4 [ia a7, ib a8] :: Ass.box 63 a2 (encS63 zS63) :: Ass.box 58 a1 (cellsS58 zS58 (none, 0)) :: Ass.box 58 a6 (cellsS58 a0 (a5, a3)) :: os) hS 0 rfl 58 0 (ag (cellsS58 b0 (o9, p9))) (cellsS58 b0 (o9, p9)) (by kernel_rfl) (by kernel_rfl) (by kernel_rfl) (by kernel_rfl) (by kernel_rfl) (by kernel_rfl) rfl rfl ?_)
      intro w hS
      have hC := hC.again ⟨_, _, hS.re [5, 5, 5, 5] [] rfl (sub_cons 1 rfl (sub_cons 3 rfl sub_self))⟩
      refine ⟨hC, ?_⟩
      refine ED.one 11 0 (bm 12 4095) (by kernel_rfl) (by kernel_rfl) (by kernel_rfl) (EO.storeBox (os' := Ass.box 58 v6 (cellsS58 b0 (o9, p9)) :: Ass.box 63 d0 (encS63 b5) :: Ass.box 32 a4 [ia a7, ib a8] :: Ass.box 63 a2 (encS63 zS63) :: Ass.box 58 a1 (cellsS58 zS58 (none, 0)) :: Ass.box 58 a6 (cellsS58 a0 (a5, a3)) :: os) hS 1 rfl 63 0 (ag (encS63 b5)) (encS63 b5) (by kernel_rfl) (by kernel_rfl) (by kernel_rfl) (by kernel_rfl) (by kernel_rfl) (by kernel_rfl) rfl rfl ?_)
      intro w hS
      have hC := hC.again ⟨_, _, hS.re [5, 5, 5, 5] [] rfl (sub_cons 1 rfl (sub_cons 3 rfl sub_self))⟩
      refine ⟨hC, ?_⟩
      refine ED.done (by kernel_rfl) ?_
      refine EQ.to ?_
      refine EQ.keep [4, 5, 6, 11, 13, 14] [(4, pt a1 0), (5, pt a2 0), (6, pt a4 0), (11, ib a9), (13, pt v6 0), (14, pt d0 0)] (by kernel_rfl) ?_
      exact fun a ha => ⟨d0, v6, o9, p9, ha, (hS.re [5, 5, 5, 5, 4, 5] [] rfl (sub_cons 0 rfl (sub_cons 1 rfl (sub_cons 2 rfl (sub_cons 3 rfl (sub_tail (sub_tail (sub_tail (sub_tail (sub_self))))))))))⟩
     ·refine EO.alloc hS 58 (ag (cellsS58 zS58 (none, 0))) (cellsS58 zS58 (none, 0)) 13 (by kernel_rfl) (by kernel_rfl) (by kernel_rfl) (by kernel_rfl) (by first | rfl | kernel_rfl) ?_
      intro q6 w hS
      have hC := hC.again ⟨_, _, hS.re [5, 5, 5, 5] [] rfl sub_self⟩
      refine ⟨hC, ?_⟩
      refine ED.at' (bm 12 783) (by kernel_rfl) ?_
      have hS := St.nilR hS (Kd.int .i32)
      have hS : St B _ (Ass.box 58 q6 (cellsS58 zS58 (none, 0)) :: Ass.box 63 d0 (encS63 zS63) :: Ass.box 32 a4 [ia a7, ib a8] :: Ass.box 63 a2 (encS63 zS63) :: Ass.box 58 a1 (cellsS58 zS58 (none, 0)) :: Ass.box 58 a6 (cellsS58 a0 (a5, a3)) :: os) (Ro.sl (Kd.int .i32) a5 a3 a0.f3 :: Ro.sl (Kd.int .i32) none 0 ([] : List Int) :: Ro.sl (Kd.slice kS32) b7 b8 b6 :: rs) := hS.re [] [] rfl (sub_cons 1 rfl (sub_cons 0 rfl (sub_tail (sub_tail (sub_self)))))
      have hq := confidantref9_went.calls e2 hS
      refine ED.one 4 5 (bm 12 799) (by kernel_rfl) (by kernel_rfl) (by kernel_rfl) (EO.callD 56 [ag (cellsS58 a0 (a5, a3)), ia d6, sv none 0 ([] : List Int)] _ 118 (by kernel_rfl) (by kernel_rfl) (by kernel_rfl) hq ?_)
      rintro v w ⟨p0, q0, rfl, hS⟩
      have hC := hC.again ⟨_, _, hS.re [5, 5, 5, 5] [] rfl (sub_cons 1 rfl (sub_cons 3 rfl sub_self))⟩
      refine ⟨hC, ?_⟩
      refine ED.quick hN hF hC [5, 6, 7] [4, 5, 6, 11, 13, 14, 119, 120] 2 [(4, pt a1 0), (5, pt a2 0), (6, pt a4 0), (11, ib a9), (13, pt q6 0), (14, pt d0 0), (119, ag (cellsS58 b0 (p0, q0))), (120, ag (encS63 b5))] (bm 12 1023) (by kernel_rfl) (by kernel_rfl) ?_
      refine ED.one 10 1 (bm 12 2047) (by kernel_rfl) (by kernel_rfl) (by kernel_rfl) (EO.storeBox (os' := Ass.box 58 q6 (cellsS58 b0 (p0, q0)) :: Ass.box 63 d0 (encS63 zS63) :: Ass.box 32 a4 [ia a7, ib a8] :: Ass.box 63 a2 (encS63 zS63) :: Ass.box 58 a1 (cellsS58 zS58 (none, 0)) :: Ass.box 58 a6 (cellsS58 a0 (a5, a3)) :: os) hS 0 rfl 58 0 (ag (cellsS58 b0 (p0, q0))) (cellsS58 b0 (p0, q0)) (by kernel_rfl) (by kernel_rfl) (by kernel_rfl) (by kernel_rfl) (by kernel_rfl) (by kernel_rfl) rfl rfl ?_)
      intro w hS
      have hC := hC.again ⟨_, _, hS.re [5, 5, 5, 5] [] rfl (sub_cons 1 rfl (sub_cons 3 rfl sub_self))⟩
      refine ⟨hC, ?_⟩
      refine ED.one 11 0 (bm 12 4095) (by kernel_rfl) (by kernel_rfl) (by kernel_rfl) (EO.storeBox (os' := Ass.box 58 q6 (cellsS58 b0 (p0, q0)) :: Ass.box 63 d0 (encS63 b5) :: Ass.box 32 a4 [ia a7, ib a8] :: Ass.box 63 a2 (encS63 zS63) :: Ass.box 58 a1 (cellsS58 zS58 (none, 0)) :: Ass.box 58 a6 (cellsS58 a0 (a5, a3)) :: os) hS 1 rfl 63 0 (ag (encS63 b5)) (encS63 b5) (by kernel_rfl) (by kernel_rfl) (by kernel_rfl) (by kernel_rfl) (by kernel_rfl) (by kernel_rfl) rfl rfl ?_)
      intro w hS
      have hC := hC.again ⟨_, _, hS.re [5, 5, 5, 5] [] rfl (sub_cons 1 rfl (sub_cons 3 rfl sub_self))⟩
      refine ⟨hC, ?_⟩
      refine ED.done (by kernel_rfl) ?_
      refine EQ.to ?_
      refine EQ.keep [4, 5, 6, 11, 13, 14] [(4, pt a1 0), (5, pt a2 0), (6, pt a4 0), (11, ib a9), (13, pt q6 0), (14, pt d0 0)] (by kernel_rfl) ?_
      exact fun a ha => ⟨d0, q6, p0, q0, ha, (hS.re [5, 5, 5, 5, 4, 5] [] rfl (sub_cons 0 rfl (sub_cons 1 rfl (sub_cons 2 rfl (sub_cons 3 rfl (sub_tail (sub_tail (sub_tail (sub_tail (sub_self))))))))))⟩
    ·refine EO.alloc hS 58 (ag (cellsS58 zS58 (none, 0))) (cellsS58 zS58 (none, 0)) 13 (by kernel_rfl) (by kernel_rfl) (by kernel_rfl) (by kernel_rfl) (by first | rfl | kernel_rfl) ?_
     intro q7 w hS
     have hC := hC.again ⟨_, _, hS.re [5, 5, 5, 5] [] rfl sub_self⟩
     refine ⟨hC, ?_⟩
     refine ED.at' (bm 12 775) (by kernel_rfl) ?_
     have hq := confidantref9_pops.calls t6 hS
     refine ED.one 3 6 (bm 12 783) (by kernel_rfl) (by kernel_rfl) (by kernel_rfl) (EO.callD 55 [ia a7] _ 117 (by kernel_rfl) (by kernel_rfl) (by kernel_rfl) hq ?_)
     rintro v w ⟨rfl, hS⟩
     have hC := hC.again ⟨_, _, hS.re [5, 5, 5, 5] [] rfl sub_self⟩
     refine ⟨hC, ?_⟩
     have hS := St.nilR hS (Kd.int .i32)
     have hS : St B _ (Ass.box 58 q7 (cellsS58 zS58 (none, 0)) :: Ass.box 63 d0 (encS63 zS63) :: Ass.box 32 a4 [ia a7, ib a8] :: Ass.box 63 a2 (encS63 zS63) :: Ass.box 58 a1 (cellsS58 zS58 (none, 0)) :: Ass.box 58 a6 (cellsS58 a0 (a5, a3)) :: os) (Ro.sl (Kd.int .i32) a5 a3 a0.f3 :: Ro.sl (Kd.int .i32) none 0 ([] : List Int) :: Ro.sl (Kd.slice kS32) b7 b8 b6 :: rs) := hS.re [] [] rfl (sub_cons 1 rfl (sub_cons 0 rfl (sub_tail (sub_tail (sub_self)))))
     have hq := confidantref9_went.calls e2 hS
     refine ED.one 4 5 (bm 12 799) (by kernel_rfl) (by kernel_rfl) (by kernel_rfl) (EO.callD 56 [ag (cellsS58 a0 (a5, a3)), ia d6, sv none 0 ([] : List Int)] _ 118 (by kernel_rfl) (by kernel_rfl) (by kernel_rfl) hq ?_)
     rintro v w ⟨p1, q1, rfl, hS⟩
     have hC := hC.again ⟨_, _, hS.re [5, 5, 5, 5] [] rfl (sub_cons 1 rfl (sub_cons 3 rfl sub_self))⟩
     refine ⟨hC, ?_⟩
     refine ED.quick hN hF hC [5, 6, 7] [4, 5, 6, 11, 13, 14, 119, 120] 2 [(4, pt a1 0), (5, pt a2 0), (6, pt a4 0), (11, ib a9), (13, pt q7 0), (14, pt d0 0), (119, ag (cellsS58 b0 (p1, q1))), (120, ag (encS63 b5))] (bm 12 1023) (by kernel_rfl) (by kernel_rfl) ?_
     refine ED.one 10 1 (bm 12 2047) (by kernel_rfl) (by kernel_rfl) (by kernel_rfl) (EO.storeBox (os' := Ass.box 58 q7 (cellsS58 b0 (p1, q1)) :: Ass.box 63 d0 (encS63 zS63) :: Ass.box 32 a4 [ia a7, ib a8] :: Ass.box 63 a2 (encS63 zS63) :: Ass.box 58 a1 (cellsS58 zS58 (none, 0)) :: Ass.box 58 a6 (cellsS58 a0 (a5, a3)) :: os) hS 0 rfl 58 0 (ag (cellsS58 b0 (p1, q1))) (cellsS58 b0 (p1, q1)) (by kernel_rfl) (by kernel_rfl) (by kernel_rfl) (by kernel_rfl) (by kernel_rfl) (by kernel_rfl) rfl rfl ?_)
     intro w hS
     have hC := hC.again ⟨_, _, hS.re [5, 5, 5, 5] [] rfl (sub_cons 1 rfl (sub_cons 3 rfl sub_self))⟩
     refine ⟨hC, ?_⟩
     refine ED.one 11 0 (bm 12 4095) (by kernel_rfl) (by kernel_rfl) (by kernel_rfl) (EO.storeBox (os' := Ass.box 58 q7 (cellsS58 b0 (p1, q1)) :: Ass.box 63 d0 (encS63 b5) :: Ass.box 32 a4 [ia a7, ib a8] :: Ass.box 63 a2 (encS63 zS63) :: Ass.box 58 a1 (cellsS58 zS58 (none, 0)) :: Ass.box 58 a6 (cellsS58 a0 (a5, a3)) :: os) hS 1 rfl 63 0 (ag (encS63 b5)) (encS63 b5) (by kernel_rfl) (by kernel_rfl) (by kernel_rfl) (by kernel_rfl) (by kernel_rfl) (by kernel_rfl) rfl rfl ?_)
     intro w hS
     have hC := hC.again ⟨_, _, hS.re [5, 5, 5, 5] [] rfl (sub_cons 1 rfl (sub_cons 3 rfl sub_self))⟩
     refine ⟨hC, ?_⟩
     refine ED.done (by kernel_rfl) ?_
     refine EQ.to ?_
     refine EQ.keep [4, 5, 6, 11, 13, 14] [(4, pt a1 0), (5, pt a2 0), (6, pt a4 0), (11, ib a9), (13, pt q7 0), (14, pt d0 0)] (by kernel_rfl) ?_
     exact fun a ha => ⟨d0, q7, p1, q1, ha, (hS.re [5, 5, 5, 5, 4, 5] [] rfl (sub_cons 0 rfl (sub_cons 1 rfl (sub_cons 2 rfl (sub_cons 3 rfl (sub_tail (sub_tail (sub_tail (sub_tail (sub_self))))))))))⟩
  ·obtain ⟨c5, c4, c6, c7, ha, hS⟩ := hI
   refine EQ.at ?_ a ha
   clear ha a
   refine EQ.code ?_
   obtain ⟨x6, F5, H⟩ := lt_out H
   refine EW.ct (fun a w => ∃ d1 : Int, Sat 218 [(4, pt a1 0), (5, pt a2 0), (13, pt c4 0), (14, pt c5 0)] a ∧ St B w (Ass.box 63 c5 (encS63 b5) :: Ass.box 58 c4 (cellsS58 {b0 with f2 := d1} (c6, c7)) :: Ass.box 32 a4 [ia a7, ib a8] :: Ass.box 63 a2 (encS63 zS63) :: Ass.box 58 a1 (cellsS58 zS58 (none, 0)) :: Ass.box 58 a6 (cellsS58 a0 (a5, a3)) :: os) (Ro.sl (Kd.int .i32) c6 c7 b0.f3 :: Ro.sl (Kd.int .i32) a5 a3 a0.f3 :: Ro.sl (Kd.int .i32) none 0 ([] : List Int) :: Ro.sl (Kd.slice kS32) b7 b8 b6 :: rs) ∧ x6 d1 = some (e3, d9)) (by kernel_rfl) ?_ (fun a w hI => ?_)
   ·obtain ⟨x7, F6, H⟩ := lt_out H
    refine EW.ct (fun a w => ∃ t3 : Bool, Sat 218 [(4, pt a1 0), (5, pt a2 0), (6, pt a4 0), (13, pt c4 0), (14, pt c5 0), (127, .bool (t3))] a ∧ St B w (Ass.box 63 c5 (encS63 b5) :: Ass.box 58 c4 (cellsS58 b0 (c6, c7)) :: Ass.box 32 a4 [ia a7, ib a8] :: Ass.box 63 a2 (encS63 zS63) :: Ass.box 58 a1 (cellsS58 zS58 (none, 0)) :: Ass.box 58 a6 (cellsS58 a0 (a5, a3)) :: os) (Ro.sl (Kd.int .i32) c6 c7 b0.f3 :: Ro.sl (Kd.int .i32) a5 a3 a0.f3 :: Ro.sl (Kd.int .i32) none 0 ([] : List Int) :: Ro.sl (Kd.slice kS32) b7 b8 b6 :: rs) ∧ x7 t3 = some (e3, d9)) (by kernel_rfl) ?_ (fun a w hI => ?_)
    ·refine EW.rg (by kernel_rfl) ?_
     refine EL.quick 1 [4, 5, 6, 11, 13, 14, 121] [(4, pt a1 0), (5, pt a2 0), (6, pt a4 0), (11, ib a9), (13, pt c4 0), (14, pt c5 0), (121, pt a4 0)] (by kernel_rfl) ?_
     refine EL.of (EO.Y (YO.loadBox hS 2 rfl 3 0 1 (ia a7) 122 (by kernel_rfl) (by kernel_rfl) (by kernel_rfl) (by kernel_rfl)) ?_)
     refine EL.quick 2 [4, 5, 6, 11, 13, 14, 124] [(4, pt a1 0), (5, pt a2 0), (6, pt a4 0), (11, ib a9), (13, pt c4 0), (14, pt c5 0), (124, .bool (decide (a7 = 10)))] (by kernel_rfl) ?_
     by_cases x0 : a7 = 10
     ·rw [if_pos x0] at H
      refine EL.keep [4, 5, 6, 11, 13, 14, 124] [(4, pt a1 0), (5, pt a2 0), (6, pt a4 0), (11, ib a9), (13, pt c4 0), (14, pt c5 0), (124, .bool (decide (a7 = 10)))] (by kernel_rfl) ?_
      refine EL.as' [(4, pt a1 0), (5, pt a2 0), (6, pt a4 0), (11, ib a9), (13, pt c4 0), (14, pt c5 0), (124, .bool (true))] (by simp only [cellsS58, encS63, dec_t x0, Bool.not_true, Bool.not_false]) ?_
      refine EL.quick 3 [4, 5, 6, 13, 14, 127] [(4, pt a1 0), (5, pt a2 0), (6, pt a4 0), (13, pt c4 0), (14, pt c5 0), (127, .bool (true))] (by kernel_rfl) ?_
      refine EL.done (by kernel_rfl) ?_
      refine EQ.to ?_
      refine EQ.keep [4, 5, 6, 13, 14, 127] [(4, pt a1 0), (5, pt a2 0), (6, pt a4 0), (13, pt c4 0), (14, pt c5 0), (127, .bool (true))] (by kernel_rfl) ?_
      exact fun a ha => ⟨true, ha, (hS.re [5, 5, 5, 5, 5, 5] [] rfl (sub_cons 0 rfl (sub_cons 1 rfl (sub_cons 2 rfl (sub_cons 3 rfl (sub_tail (sub_tail (sub_tail (sub_tail (sub_self)))))))))), H⟩
     rw [if_neg x0] at H
     refine EL.keep [4, 5, 6, 11, 13, 14, 124] [(4, pt a1 0), (5, pt a2 0), (6, pt a4 0), (11, ib a9), (13, pt c4 0), (14, pt c5 0), (124, .bool (decide (a7 = 10)))] (by kernel_rfl) ?_
     refine EL.as' [(4, pt a1 0), (5, pt a2 0), (6, pt a4 0), (11, ib a9), (13, pt c4 0), (14, pt c5 0), (124, .bool (false))] (by simp only [cellsS58, encS63, dec_f x0, Bool.not_true, Bool.not_false]) ?_
     refine EL.quick 3 [4, 5, 6, 13, 14, 127] [(4, pt a1 0), (5, pt a2 0), (6, pt a4 0), (13, pt c4 0), (14, pt c5 0), (127, .bool (decide (a9 = 0)))] (by kernel_rfl) ?_
     refine EL.done (by kernel_rfl) ?_
     refine EQ.to ?_
     refine EQ.keep [4, 5, 6, 13, 14, 127] [(4, pt a1 0), (5, pt a2 0), (6, pt a4 0), (13, pt c4 0), (14, pt c5 0), (127, .bool (decide (a9 = 0)))] (by kernel_rfl) ?_
     exact fun a ha => ⟨decide (a9 = 0), ha, (hS.re [5, 5, 5, 5, 5, 5] [] rfl (sub_cons 0 rfl (sub_cons 1 rfl (sub_cons 2 rfl (sub_cons 3 rfl (sub_tail (sub_tail (sub_tail (sub_tail (sub_self)))))))))), H⟩
    obtain ⟨t3, ha, hS, H⟩ := hI
    rw [F6] at H
    (try dsimp only at H)
    refine EW.at ?_ a ha
    clear ha a
    refine EW.cdP' (t3) (by kernel_rfl) (by kernel_rfl) (fun z5 => ?_) (fun z5 => ?_)
    ·rw [if_pos z5] at H
     refine EW.rg (by kernel_rfl) ?_
     refine EL.quick 1 [4, 5, 13, 14, 128] [(4, pt a1 0), (5, pt a2 0), (13, pt c4 0), (14, pt c5 0), (128, pt a4 1)] (by kernel_rfl) ?_
     refine EL.of (EO.Y (YO.loadBox hS 2 rfl 21 1 1 (ib a8) 129 (by kernel_rfl) (by kernel_rfl) (by kernel_rfl) (by kernel_rfl)) ?_)
     refine EL.quick 2 [4, 5, 13, 14, 130, 131] [(4, pt a1 0), (5, pt a2 0), (13, pt c4 0), (14, pt c5 0), (130, ia (IntKind.i64.wrap a8)), (131, pt c4 2)] (by kernel_rfl) ?_
     refine EL.of (EO.storeBox (os' := Ass.box 63 c5 (encS63 b5) :: Ass.box 58 c4 (cellsS58 {b0 with f2 := IntKind.i64.wrap a8} (c6, c7)) :: Ass.box 32 a4 [ia a7, ib a8] :: Ass.box 63 a2 (encS63 zS63) :: Ass.box 58 a1 (cellsS58 zS58 (none, 0)) :: Ass.box 58 a6 (cellsS58 a0 (a5, a3)) :: os) hS 1 rfl 3 2 (ia (IntKind.i64.wrap a8)) (cellsS58 {b0 with f2 := IntKind.i64.wrap a8} (c6, c7)) (by kernel_rfl) (by kernel_rfl) (by kernel_rfl) (by kernel_rfl) (by kernel_rfl) (by kernel_rfl) rfl rfl ?_)
     intro w hS
     refine EL.done (by kernel_rfl) ?_
     refine EQ.to ?_
     refine EQ.keep [4, 5, 13, 14] [(4, pt a1 0), (5, pt a2 0), (13, pt c4 0), (14, pt c5 0)] (by kernel_rfl) ?_
     exact fun a ha => ⟨IntKind.i64.wrap a8, ha, (hS.re [5, 5, 5, 5, 5, 5] [] rfl (sub_cons 0 rfl (sub_cons 1 rfl (sub_cons 2 rfl (sub_cons 3 rfl (sub_tail (sub_tail (sub_tail (sub_tail (sub_self)))))))))), H⟩
    rw [if_neg z5] at H
    refine EW.skip (by kernel_rfl) ?_
    refine EQ.to ?_
    refine EQ.keep [4, 5, 13, 14] [(4, pt a1 0), (5, pt a2 0), (13, pt c4 0), (14, pt c5 0)] (by kernel_rfl) ?_
    exact fun a ha => ⟨b0.f2, ha, (hS.re [5, 5, 5, 5, 5, 5] [] rfl (sub_cons 0 rfl (sub_cons 1 rfl (sub_cons 2 rfl (sub_cons 3 rfl (sub_tail (sub_tail (sub_tail (sub_tail (sub_self)))))))))), H⟩
   obtain ⟨d1, ha, hS, H⟩ := hI
   rw [F5] at H
   (try dsimp only at H)
   refine EW.at ?_ a ha
   clear ha a
   refine EW.sq (by kernel_rfl) ?_
   have hS := hS.drew
   refine EW.dr (B := B) [Ass.box 63 c5 (encS63 b5), Ass.box 58 c4 (cellsS58 {b0 with f2 := d1} (c6, c7)), Ass.box 32 a4 [ia a7, ib a8], Ass.box 58 a6 (cellsS58 a0 (a5, a3))] [Ro.sl (Kd.int .i32) c6 c7 b0.f3, Ro.sl (Kd.int .i32) a5 a3 a0.f3, Ro.sl (Kd.int .i32) none 0 ([] : List Int), Ro.sl (Kd.slice kS32) b7 b8 b6] (by kernel_rfl) (by kernel_rfl) ?_
   have hN : Region.noSelect Cd29.r.r.r.r.r.r.r.r.r.l.r.l.r.r.r.r.r.r.r.l.r.r.l.ops = true := (by kernel_rfl)
   have hF : freeAll Cd29.r.r.r.r.r.r.r.r.r.l.r.l.r.r.r.r.r.r.r.l.r.r.l.ops = true := (by kernel_rfl)
   have hC : Core B [Ass.box 63 c5 (encS63 b5), Ass.box 58 c4 (cellsS58 {b0 with f2 := d1} (c6, c7)), Ass.box 32 a4 [ia a7, ib a8], Ass.box 58 a6 (cellsS58 a0 (a5, a3))] [Ro.sl (Kd.int .i32) c6 c7 b0.f3, Ro.sl (Kd.int .i32) a5 a3 a0.f3, Ro.sl (Kd.int .i32) none 0 ([] : List Int), Ro.sl (Kd.slice kS32) b7 b8 b6] _ := ⟨_, _, hS.re [5, 3, 3, 3] [] rfl sub_self⟩
   refine ED.Y hN hF hC 0 3 (bm 4 1) (by kernel_rfl) (by kernel_rfl) rfl (fun _ _ _ hS => YO.loadBox hS 1 rfl 58 0 12 (ag (cellsS58 {b0 with f2 := d1} (c6, c7))) 132 (by kernel_rfl) (by kernel_rfl) (by kernel_rfl) (by kernel_rfl)) ?_
   refine ED.Y hN hF hC 1 2 (bm 4 3) (by kernel_rfl) (by kernel_rfl) rfl (fun _ _ _ hS => YO.loadBox hS 0 rfl 63 0 3 (ag (encS63 b5)) 133 (by kernel_rfl) (by kernel_rfl) (by kernel_rfl) (by kernel_rfl)) ?_
   refine ED.one 2 1 (bm 4 7) (by kernel_rfl) (by kernel_rfl) (by kernel_rfl) (EO.storeBox (os' := Ass.box 63 c5 (encS63 b5) :: Ass.box 58 c4 (cellsS58 {b0 with f2 := d1} (c6, c7)) :: Ass.box 32 a4 [ia a7, ib a8] :: Ass.box 63 a2 (encS63 zS63) :: Ass.box 58 a1 (cellsS58 {b0 with f2 := d1} (c6, c7)) :: Ass.box 58 a6 (cellsS58 a0 (a5, a3)) :: os) hS 4 rfl 58 0 (ag (cellsS58 {b0 with f2 := d1} (c6, c7))) (cellsS58 {b0 with f2 := d1} (c6, c7)) (by kernel_rfl) (by kernel_rfl) (by kernel_rfl) (by kernel_rfl) (by kernel_rfl) (by kernel_rfl) rfl rfl ?_)
   intro w hS
   have hC := hC.again ⟨_, _, hS.re [5, 3, 3, 3] [] rfl sub_self⟩
   refine ⟨hC, ?_⟩
   refine ED.one 3 0 (bm 4 15) (by kernel_rfl) (by kernel_rfl) (by kernel_rfl) (EO.storeBox (os' := Ass.box 63 c5 (encS63 b5) :: Ass.box 58 c4 (cellsS58 {b0 with f2 := d1} (c6, c7)) :: Ass.box 32 a4 [ia a7, ib a8] :: Ass.box 63 a2 (encS63 b5) :: Ass.box 58 a1 (cellsS58 {b0 with f2 := d1} (c6, c7)) :: Ass.box 58 a6 (cellsS58 a0 (a5, a3)) :: os) hS 3 rfl 63 0 (ag (encS63 b5)) (encS63 b5) (by kernel_rfl) (by kernel_rfl) (by kernel_rfl) (by kernel_rfl) (by kernel_rfl) (by kernel_rfl) rfl rfl ?_)
   intro w hS
   have hC := hC.again ⟨_, _, hS.re [5, 3, 3, 3] [] rfl sub_self⟩
   refine ⟨hC, ?_⟩
   refine ED.done (by kernel_rfl) ?_
   refine EQ.code ?_
   refine EW.ret (by kernel_rfl) ?_
   refine EQ.ret ?_
   refine EQ.ret ?_
   simp only [cellsS58, encS63, Option.some.injEq, Prod.mk.injEq] at H
   obtain ⟨rfl, rfl⟩ := H
   exact EQ.leave2 hS (.cell 4 58) (.cell 5 63) (ag (cellsS58 {b0 with f2 := d1} (c6, c7))) (ag (encS63 b5)) (by kernel_rfl) ⟨4, 58, a1, (cellsS58 {b0 with f2 := d1} (c6, c7)), 0, 12, rfl, (by kernel_rfl), (by kernel_rfl)⟩ ⟨3, 63, a2, (encS63 b5), 0, 3, rfl, (by kernel_rfl), (by kernel_rfl)⟩ ⟨_, rfl, c6, c7, rfl, (hS.re [] [0, 0, 0, 0, 0, 0] rfl (sub_cons 0 rfl (sub_cons 1 rfl (sub_cons 3 rfl (sub_tail (sub_tail (sub_tail (sub_tail (sub_self)))))))))⟩
 rw [if_neg z4] at H
 obtain ⟨x8, F7, H⟩ := lt_out H
 refine EW.ct (fun a w => ∃ t4 : Bool, Sat 218 [(2, pt a6 0), (4, pt a1 0), (5, pt a2 0), (6, pt a4 0), (11, ib a9), (12, ib c3), (86, ia a7), (134, .bool (t4))] a ∧ St B w (Ass.box 32 a4 [ia a7, ib a8] :: Ass.box 63 a2 (encS63 zS63) :: Ass.box 58 a1 (cellsS58 zS58 (none, 0)) :: Ass.box 58 a6 (cellsS58 a0 (a5, a3)) :: os) (Ro.sl (Kd.int .i32) a5 a3 a0.f3 :: Ro.sl (Kd.slice kS32) b7 b8 b6 :: rs) ∧ x8 t4 = some (e3, d9)) (by kernel_rfl) ?_ (fun a w hI => ?_)
 ·refine EW.sq (by kernel_rfl) ?_
  refine EW.rg (by kernel_rfl) ?_
  refine EL.quick 2 [2, 4, 5, 6, 11, 12, 86, 134] [(2, pt a6 0), (4, pt a1 0), (5, pt a2 0), (6, pt a4 0), (11, ib a9), (12, ib c3), (86, ia a7), (134, .bool (decide (a7 = 12)))] (by kernel_rfl) ?_
  refine EL.done (by kernel_rfl) ?_
  refine EQ.code ?_
  refine EW.cdP (a7 = 12) (by kernel_rfl) (by kernel_rfl) (fun x1 => ?_) (fun x1 => ?_)
  ·rw [if_pos x1] at H
   refine EW.keep [2, 4, 5, 6, 11, 12, 86, 134] [(2, pt a6 0), (4, pt a1 0), (5, pt a2 0), (6, pt a4 0), (11, ib a9), (12, ib c3), (86, ia a7), (134, .bool (decide (a7 = 12)))] (by kernel_rfl) ?_
   refine EW.as' [(2, pt a6 0), (4, pt a1 0), (5, pt a2 0), (6, pt a4 0), (11, ib a9), (12, ib c3), (86, ia a7), (134, .bool (true))] (by simp only [cellsS58, encS63, dec_t x1, Bool.not_true, Bool.not_false]) ?_
   refine EW.skip (by kernel_rfl) ?_
   refine EQ.to ?_
   refine EQ.keep [2, 4, 5, 6, 11, 12, 86, 134] [(2, pt a6 0), (4, pt a1 0), (5, pt a2 0), (6, pt a4 0), (11, ib a9), (12, ib c3), (86, ia a7), (134, .bool (true))] (by kernel_rfl) ?_
   exact fun a ha => ⟨true, ha, (hS.re [3, 3, 3, 3] [] rfl (sub_cons 0 rfl (sub_cons 1 rfl (sub_tail (sub_tail (sub_self)))))), H⟩
  rw [if_neg x1] at H
  refine EW.rg (by kernel_rfl) ?_
  refine EL.quick 2 [2, 4, 5, 6, 11, 12, 86, 134] [(2, pt a6 0), (4, pt a1 0), (5, pt a2 0), (6, pt a4 0), (11, ib a9), (12, ib c3), (86, ia a7), (134, .bool (decide (a7 = 13)))] (by kernel_rfl) ?_
  refine EL.done (by kernel_rfl) ?_
  refine EQ.to ?_
  refine EQ.keep [2, 4, 5, 6, 11, 12, 86, 134] [(2, pt a6 0), (4, pt a1 0), (5, pt a2 0), (6, pt a4 0), (11, ib a9), (12, ib c3), (86, ia a7), (134, .bool (decide (a7 = 13)))] (by kernel_rfl) ?_
  exact fun a ha => ⟨decide (a7 = 13), ha, (hS.re [3, 3, 3, 3] [] rfl (sub_cons 0 rfl (sub_cons 1 rfl (sub_tail (sub_tail (sub_self)))))), H⟩
 obtain ⟨t4, ha, hS, H⟩ := hI
 rw [F7] at H
 (try dsimp only at H)
 refine EW.at ?_ a ha
 clear ha a
 refine EW.cdP' (t4) (by kernel_rfl) (by kernel_rfl) (fun z6 => ?_) (fun z6 => ?_)
 ·rw [if_pos z6] at H
  refine EW.sq (by kernel_rfl) ?_
  obtain ⟨x9, F8, H⟩ := lt_out H
  refine EW.ct (fun a w => ∃ t5 : Bool, Sat 218 [(2, pt a6 0), (4, pt a1 0), (5, pt a2 0), (6, pt a4 0), (11, ib a9), (144, .bool (t5))] a ∧ St B w (Ass.box 32 a4 [ia a7, ib a8] :: Ass.box 63 a2 (encS63 zS63) :: Ass.box 58 a1 (cellsS58 zS58 (none, 0)) :: Ass.box 58 a6 (cellsS58 a0 (a5, a3)) :: os) (Ro.sl (Kd.int .i32) a5 a3 a0.f3 :: Ro.sl (Kd.slice kS32) b7 b8 b6 :: rs) ∧ x9 t5 = some (e3, d9)) (by kernel_rfl) ?_ (fun a w hI => ?_)
  ·refine EW.rg (by kernel_rfl) ?_
   refine EL.quick 1 [2, 4, 5, 6, 11, 137] [(2, pt a6 0), (4, pt a1 0), (5, pt a2 0), (6, pt a4 0), (11, ib a9), (137, pt a4 1)] (by kernel_rfl) ?_
   refine EL.of (EO.Y (YO.loadBox hS 0 rfl 21 1 1 (ib a8) 138 (by kernel_rfl) (by kernel_rfl) (by kernel_rfl) (by kernel_rfl)) ?_)
   refine EL.quick 2 [2, 4, 5, 6, 11, 140] [(2, pt a6 0), (4, pt a1 0), (5, pt a2 0), (6, pt a4 0), (11, ib a9), (140, .bool (decide (a8 < 0)))] (by kernel_rfl) ?_
   by_cases x2 : a8 < 0
   ·rw [if_pos x2] at H
    refine EL.keep [2, 4, 5, 6, 11, 140] [(2, pt a6 0), (4, pt a1 0), (5, pt a2 0), (6, pt a4 0), (11, ib a9), (140, .bool (decide (a8 < 0)))] (by kernel_rfl) ?_
    refine EL.as' [(2, pt a6 0), (4, pt a1 0), (5, pt a2 0), (6, pt a4 0), (11, ib a9), (140, .bool (true))] (by simp only [cellsS58, encS63, dec_t x2, Bool.not_true, Bool.not_false]) ?_
    refine EL.quick 4 [2, 4, 5, 6, 11, 144] [(2, pt a6 0), (4, pt a1 0), (5, pt a2 0), (6, pt a4 0), (11, ib a9), (144, .bool (true))] (by kernel_rfl) ?_
    refine EL.done (by kernel_rfl) ?_
    refine EQ.to ?_
    refine EQ.keep [2, 4, 5, 6, 11, 144] [(2, pt a6 0), (4, pt a1 0), (5, pt a2 0), (6, pt a4 0), (11, ib a9), (144, .bool (true))] (by kernel_rfl) ?_
    exact fun a ha => ⟨true, ha, (hS.re [3, 3, 3, 3] [] rfl (sub_cons 0 rfl (sub_cons 1 rfl (sub_tail (sub_tail (sub_self)))))), H⟩
   rw [if_neg x2] at H
   refine EL.keep [2, 4, 5, 6, 11, 140] [(2, pt a6 0), (4, pt a1 0), (5, pt a2 0), (6, pt a4 0), (11, ib a9), (140, .bool (decide (a8 < 0)))] (by kernel_rfl) ?_
   refine EL.as' [(2, pt a6 0), (4, pt a1 0), (5, pt a2 0), (6, pt a4 0), (11, ib a9), (140, .bool (false))] (by simp only [cellsS58, encS63, dec_f x2, Bool.not_true, Bool.not_false]) ?_
   refine EL.quick 1 [2, 4, 5, 6, 11, 140, 141] [(2, pt a6 0), (4, pt a1 0), (5, pt a2 0), (6, pt a4 0), (11, ib a9), (140, .bool (false)), (141, pt a4 1)] (by kernel_rfl) ?_
   refine EL.of (EO.Y (YO.loadBox hS 0 rfl 21 1 1 (ib a8) 142 (by kernel_rfl) (by kernel_rfl) (by kernel_rfl) (by kernel_rfl)) ?_)
   refine EL.quick 2 [2, 4, 5, 6, 11, 144] [(2, pt a6 0), (4, pt a1 0), (5, pt a2 0), (6, pt a4 0), (11, ib a9), (144, .bool (decide (a8 ≥ 4)))] (by kernel_rfl) ?_
   refine EL.done (by kernel_rfl) ?_
   refine EQ.to ?_
   refine EQ.keep [2, 4, 5, 6, 11, 144] [(2, pt a6 0), (4, pt a1 0), (5, pt a2 0), (6, pt a4 0), (11, ib a9), (144, .bool (decide (a8 ≥ 4)))] (by kernel_rfl) ?_
   exact fun a ha => ⟨decide (a8 ≥ 4), ha, (hS.re [3, 3, 3, 3] [] rfl (sub_cons 0 rfl (sub_cons 1 rfl (sub_tail (sub_tail (sub_self)))))), H⟩
  obtain ⟨t5, ha, hS, H⟩ := hI
  rw [F8] at H
  (try dsimp only at H)
  refine EW.at ?_ a ha
  clear ha a
  refine EW.cdP' (t5) (by kernel_rfl) (by kernel_rfl) (fun z7 => ?_) (fun z7 => ?_)
  ·rw [if_pos z7] at H
   refine EW.sq (by kernel_rfl) ?_
   refine EW.rg (by kernel_rfl) ?_
   refine EL.of (EO.Y (YO.loadBox hS 3 rfl 58 0 12 (ag (cellsS58 a0 (a5, a3))) 145 (by kernel_rfl) (by kernel_rfl) (by kernel_rfl) (by kernel_rfl)) ?_)
   have hS : St B _ (Ass.box 32 a4 [ia a7, ib a8] :: Ass.box 63 a2 (encS63 zS63) :: Ass.box 58 a1 (cellsS58 zS58 (none, 0)) :: Ass.box 58 a6 (cellsS58 a0 (a5, a3)) :: os) (Ro.sl (Kd.int .i32) a5 a3 a0.f3 :: Ro.sl (Kd.slice kS32) b7 b8 b6 :: rs) := hS.re [] [] rfl (sub_cons 0 rfl (sub_tail (sub_self)))
   obtain ⟨n2, f6, E0, H⟩ := b2_out H
   have hq := confidantref9_failed.calls E0 hS
   refine EL.of (EO.callD 53 [ag (cellsS58 a0 (a5, a3)), ia 24] _ 146 (by kernel_rfl) (by kernel_rfl) (by kernel_rfl) hq ?_)
   rintro v w ⟨i1, j6, rfl, hS⟩
   refine EL.quick 2 [4, 5, 147, 148] [(4, pt a1 0), (5, pt a2 0), (147, ag (cellsS58 f6 (i1, j6))), (148, ag (encS63 n2))] (by kernel_rfl) ?_
   refine EL.of (EO.storeBox (os' := Ass.box 32 a4 [ia a7, ib a8] :: Ass.box 63 a2 (encS63 zS63) :: Ass.box 58 a1 (cellsS58 f6 (i1, j6)) :: Ass.box 58 a6 (cellsS58 a0 (a5, a3)) :: os) hS 2 rfl 58 0 (ag (cellsS58 f6 (i1, j6))) (cellsS58 f6 (i1, j6)) (by kernel_rfl) (by kernel_rfl) (by kernel_rfl) (by kernel_rfl) (by kernel_rfl) (by kernel_rfl) rfl rfl ?_)
   intro w hS
   refine EL.of (EO.storeBox (os' := Ass.box 32 a4 [ia a7, ib a8] :: Ass.box 63 a2 (encS63 n2) :: Ass.box 58 a1 (cellsS58 f6 (i1, j6)) :: Ass.box 58 a6 (cellsS58 a0 (a5, a3)) :: os) hS 1 rfl 63 0 (ag (encS63 n2)) (encS63 n2) (by kernel_rfl) (by kernel_rfl) (by kernel_rfl) (by kernel_rfl) (by kernel_rfl) (by kernel_rfl) rfl rfl ?_)
   intro w hS
   refine EL.done (by kernel_rfl) ?_
   refine EQ.code ?_
   refine EW.ret (by kernel_rfl) ?_
   refine EQ.ret ?_
   refine EQ.ret ?_
   refine EQ.ret ?_
   simp only [cellsS58, encS63, Option.some.injEq, Prod.mk.injEq] at H
   obtain ⟨rfl, rfl⟩ := H
   exact EQ.leave2 hS (.cell 4 58) (.cell 5 63) (ag (cellsS58 f6 (i1, j6))) (ag (encS63 n2)) (by kernel_rfl) ⟨2, 58, a1, (cellsS58 f6 (i1, j6)), 0, 12, rfl, (by kernel_rfl), (by kernel_rfl)⟩ ⟨1, 63, a2, (encS63 n2), 0, 3, rfl, (by kernel_rfl), (by kernel_rfl)⟩ ⟨_, rfl, i1, j6, rfl, (hS.re [] [0, 0, 0, 0] rfl (sub_cons 0 rfl (sub_tail (sub_self))))⟩
  rw [if_neg z7] at H
  refine EW.skip (by kernel_rfl) ?_
  refine EQ.code ?_
  refine EW.sq (by kernel_rfl) ?_
  refine EW.sq (by kernel_rfl) ?_
  refine EW.rg (by kernel_rfl) ?_
  refine EL.quick 1 [2, 4, 5, 6, 11, 149] [(2, pt a6 0), (4, pt a1 0), (5, pt a2 0), (6, pt a4 0), (11, ib a9), (149, pt a4 0)] (by kernel_rfl) ?_
  refine EL.of (EO.Y (YO.loadBox hS 0 rfl 3 0 1 (ia a7) 150 (by kernel_rfl) (by kernel_rfl) (by kernel_rfl) (by kernel_rfl)) ?_)
  refine EL.quick 1 [2, 4, 5, 6, 11, 151] [(2, pt a6 0), (4, pt a1 0), (5, pt a2 0), (6, pt a4 0), (11, ib a9), (151, .bool (decide (a7 = 12)))] (by kernel_rfl) ?_
  refine EL.done (by kernel_rfl) ?_
  refine EQ.code ?_
  refine EW.cdP (a7 = 12) (by kernel_rfl) (by kernel_rfl) (fun z8 => ?_) (fun z8 => ?_)
  ·rw [if_pos z8] at H
   refine EW.sq (by kernel_rfl) ?_
   by_cases z9 : a8 = 0
   ·rw [if_pos z9] at H
    refine EW.keep [2, 4, 5, 6] [(2, pt a6 0), (4, pt a1 0), (5, pt a2 0), (6, pt a4 0)] (by kernel_rfl) ?_
    have hS := St.as (os' := Ass.box 32 a4 [ia a7, ib 0] :: Ass.box 63 a2 (encS63 zS63) :: Ass.box 58 a1 (cellsS58 zS58 (none, 0)) :: Ass.box 58 a6 (cellsS58 a0 (a5, a3)) :: os) hS (by simp only [cellsS58, encS63, z9])
    obtain ⟨u0, C5, H⟩ := lt_out H
    obtain ⟨n3, f7, E1, H⟩ := b2_out H
    have hS := hS.drew
    refine EW.dr (B := B) [Ass.box 32 a4 [ia a7, ib 0], Ass.box 58 a6 (cellsS58 a0 (a5, a3))] [Ro.sl (Kd.int .i32) a5 a3 a0.f3, Ro.sl (Kd.slice kS32) b7 b8 b6] (by kernel_rfl) (by kernel_rfl) ?_
    have hN : Region.noSelect Cd29.r.r.r.r.r.r.r.r.r.l.r.l.r.r.r.r.r.r.r.r.r.l.r.l.r.l.l.ops = true := (by kernel_rfl)
    have hF : freeAll Cd29.r.r.r.r.r.r.r.r.r.l.r.l.r.r.r.r.r.r.r.r.r.l.r.l.r.l.l.ops = true := (by kernel_rfl)
    have hC : Core B [Ass.box 32 a4 [ia a7, ib 0], Ass.box 58 a6 (cellsS58 a0 (a5, a3))] [Ro.sl (Kd.int .i32) a5 a3 a0.f3, Ro.sl (Kd.slice kS32) b7 b8 b6] _ := ⟨_, _, hS.re [3, 1] [] rfl sub_self⟩
    refine ED.quick hN hF hC [1, 3] [2, 4, 5, 153, 155] 10 [(2, pt a6 0), (4, pt a1 0), (5, pt a2 0), (153, pt a4 1), (155, pt a6 4)] (bm 12 10) (by kernel_rfl) (by kernel_rfl) ?_
    refine ED.Y hN hF hC 0 9 (bm 12 11) (by kernel_rfl) (by kernel_rfl) rfl (fun _ _ _ hS => YO.loadBox hS 1 rfl 58 0 12 (ag (cellsS58 a0 (a5, a3))) 152 (by kernel_rfl) (by kernel_rfl) (by kernel_rfl) (by kernel_rfl)) ?_
    refine ED.Y hN hF hC 2 8 (bm 12 15) (by kernel_rfl) (by kernel_rfl) rfl (fun _ _ _ hS => YO.loadBox hS 0 rfl 21 1 1 (ib 0) 154 (by kernel_rfl) (by kernel_rfl) (by kernel_rfl) (by kernel_rfl)) ?_
    refine ED.quick hN hF hC [4] [4, 5, 152, 156] 7 [(4, pt a1 0), (5, pt a2 0), (152, ag (cellsS58 a0 (a5, a3))), (156, pt a6 4)] (bm 12 31) (by kernel_rfl) (by kernel_rfl) ?_
    refine ED.Y hN hF hC 5 6 (bm 12 63) (by kernel_rfl) (by kernel_rfl) rfl (fun _ _ _ hS => YO.loadBox hS 1 rfl 21 4 1 (ib a0.f4.f0) 157 (by kernel_rfl) (by kernel_rfl) (by kernel_rfl) (by kernel_rfl)) ?_
    refine ED.one 6 5 (bm 12 127) (by kernel_rfl) (by kernel_rfl) (by kernel_rfl) (EO.lit hS (Kd.int .i32) 21 54 1 #[(0, ib a0.f4.f0)] [ib a0.f4.f0] u0 158 (by kernel_rfl) (by kernel_rfl) (by kernel_rfl) (fun _ => (by kernel_rfl)) (by rw [C5]; rfl) (by kernel_rfl) (fun w G hr => (by rw [C5]; exact ⟨[ib a0.f4.f0], [], rfl, rfl, rfl⟩)) ?_)
    intro B7 w hS
    have hC := hC.again ⟨_, _, hS.re [4, 2] [] rfl sub_self⟩
    refine ⟨hC, ?_⟩
    have hS := St.fr hS 0 rfl
    have hS : St B _ (Ass.box 32 a4 [ia a7, ib 0] :: Ass.box 63 a2 (encS63 zS63) :: Ass.box 58 a1 (cellsS58 zS58 (none, 0)) :: Ass.box 58 a6 (cellsS58 a0 (a5, a3)) :: os) (Ro.sl (Kd.int .i32) a5 a3 a0.f3 :: Ro.sl (Kd.int .i32) (some ⟨B7, 0, none⟩) 1 u0 :: Ro.sl (Kd.slice kS32) b7 b8 b6 :: rs) := hS.re [] [] rfl (sub_cons 1 rfl (sub_cons 0 rfl (sub_tail (sub_tail (sub_self)))))
    have hq := confidantref9_went.calls E1 hS
    refine ED.one 7 4 (bm 12 255) (by kernel_rfl) (by kernel_rfl) (by kernel_rfl) (EO.callD 56 [ag (cellsS58 a0 (a5, a3)), ia 0, sv (some ⟨B7, 0, none⟩) 1 u0] _ 159 (by kernel_rfl) (by kernel_rfl) (by kernel_rfl) hq ?_)
    rintro v w ⟨i2, j7, rfl, hS⟩
    have hC := hC.again ⟨_, _, hS.re [3, 1] [] rfl (sub_cons 1 rfl (sub_cons 3 rfl sub_self))⟩
    refine ⟨hC, ?_⟩
    refine ED.quick hN hF hC [8, 9] [4, 5, 160, 161] 2 [(4, pt a1 0), (5, pt a2 0), (160, ag (cellsS58 f7 (i2, j7))), (161, ag (encS63 n3))] (bm 12 1023) (by kernel_rfl) (by kernel_rfl) ?_
    refine ED.one 10 1 (bm 12 2047) (by kernel_rfl) (by kernel_rfl) (by kernel_rfl) (EO.storeBox (os' := Ass.box 32 a4 [ia a7, ib 0] :: Ass.box 63 a2 (encS63 zS63) :: Ass.box 58 a1 (cellsS58 f7 (i2, j7)) :: Ass.box 58 a6 (cellsS58 a0 (a5, a3)) :: os) hS 2 rfl 58 0 (ag (cellsS58 f7 (i2, j7))) (cellsS58 f7 (i2, j7)) (by kernel_rfl) (by kernel_rfl) (by kernel_rfl) (by kernel_rfl) (by kernel_rfl) (by kernel_rfl) rfl rfl ?_)
    intro w hS
    have hC := hC.again ⟨_, _, hS.re [3, 1] [] rfl (sub_cons 1 rfl (sub_cons 3 rfl sub_self))⟩
    refine ⟨hC, ?_⟩
    refine ED.one 11 0 (bm 12 4095) (by kernel_rfl) (by kernel_rfl) (by kernel_rfl) (EO.storeBox (os' := Ass.box 32 a4 [ia a7, ib 0] :: Ass.box 63 a2 (encS63 n3) :: Ass.box 58 a1 (cellsS58 f7 (i2, j7)) :: Ass.box 58 a6 (cellsS58 a0 (a5, a3)) :: os) hS 1 rfl 63 0 (ag (encS63 n3)) (encS63 n3) (by kernel_rfl) (by kernel_rfl) (by kernel_rfl) (by kernel_rfl) (by kernel_rfl) (by kernel_rfl) rfl rfl ?_)
    intro w hS
    have hC := hC.again ⟨_, _, hS.re [3, 1] [] rfl (sub_cons 1 rfl (sub_cons 3 rfl sub_self))⟩
    refine ⟨hC, ?_⟩
    refine ED.done (by kernel_rfl) ?_
    refine EQ.code ?_
    refine EW.ret (by kernel_rfl) ?_
    refine EQ.ret ?_
    refine EQ.ret ?_
    refine EQ.ret ?_
    simp only [cellsS58, encS63, Option.some.injEq, Prod.mk.injEq] at H
    obtain ⟨rfl, rfl⟩ := H
    exact EQ.leave2 hS (.cell 4 58) (.cell 5 63) (ag (cellsS58 f7 (i2, j7))) (ag (encS63 n3)) (by kernel_rfl) ⟨2, 58, a1, (cellsS58 f7 (i2, j7)), 0, 12, rfl, (by kernel_rfl), (by kernel_rfl)⟩ ⟨1, 63, a2, (encS63 n3), 0, 3, rfl, (by kernel_rfl), (by kernel_rfl)⟩ ⟨_, rfl, i2, j7, rfl, (hS.re [] [0, 0, 0, 0] rfl (sub_cons 0 rfl (sub_cons 1 rfl (sub_cons 3 rfl (sub_tail (sub_tail (sub_tail (sub_tail (sub_self)))))))))⟩
   rw [if_neg z9] at H
   by_cases A0 : a8 = 1
   ·rw [if_pos A0] at H
    refine EW.keep [2, 4, 5, 6] [(2, pt a6 0), (4, pt a1 0), (5, pt a2 0), (6, pt a4 0)] (by kernel_rfl) ?_
    have hS := St.as (os' := Ass.box 32 a4 [ia a7, ib 1] :: Ass.box 63 a2 (encS63 zS63) :: Ass.box 58 a1 (cellsS58 zS58 (none, 0)) :: Ass.box 58 a6 (cellsS58 a0 (a5, a3)) :: os) hS (by simp only [cellsS58, encS63, A0])
    obtain ⟨u1, C6, H⟩ := lt_out H
    obtain ⟨n4, f8, E2, H⟩ := b2_out H
    have hS := hS.drew
    refine EW.dr (B := B) [Ass.box 32 a4 [ia a7, ib 1], Ass.box 58 a6 (cellsS58 a0 (a5, a3))] [Ro.sl (Kd.int .i32) a5 a3 a0.f3, Ro.sl (Kd.slice kS32) b7 b8 b6] (by kernel_rfl) (by kernel_rfl) ?_
    have hN : Region.noSelect Cd29.r.r.r.r.r.r.r.r.r.l.r.l.r.r.r.r.r.r.r.r.r.l.r.l.r.l.l.ops = true := (by kernel_rfl)
    have hF : freeAll Cd29.r.r.r.r.r.r.r.r.r.l.r.l.r.r.r.r.r.r.r.r.r.l.r.l.r.l.l.ops = true := (by kernel_rfl)
    have hC : Core B [Ass.box 32 a4 [ia a7, ib 1], Ass.box 58 a6 (cellsS58 a0 (a5, a3))] [Ro.sl (Kd.int .i32) a5 a3 a0.f3, Ro.sl (Kd.slice kS32) b7 b8 b6] _ := ⟨_, _, hS.re [3, 1] [] rfl sub_self⟩
    refine ED.quick hN hF hC [1, 3] [2, 4, 5, 153, 155] 10 [(2, pt a6 0), (4, pt a1 0), (5, pt a2 0), (153, pt a4 1), (155, pt a6 4)] (bm 12 10) (by kernel_rfl) (by kernel_rfl) ?_
    refine ED.Y hN hF hC 0 9 (bm 12 11) (by kernel_rfl) (by kernel_rfl) rfl (fun _ _ _ hS => YO.loadBox hS 1 rfl 58 0 12 (ag (cellsS58 a0 (a5, a3))) 152 (by kernel_rfl) (by kernel_rfl) (by kernel_rfl) (by kernel_rfl)) ?_
    refine ED.Y hN hF hC 2 8 (bm 12 15) (by kernel_rfl) (by kernel_rfl) rfl (fun _ _ _ hS => YO.loadBox hS 0 rfl 21 1 1 (ib 1) 154 (by kernel_rfl) (by kernel_rfl) (by kernel_rfl) (by kernel_rfl)) ?_
    refine ED.quick hN hF hC [4] [4, 5, 152, 156] 7 [(4, pt a1 0), (5, pt a2 0), (152, ag (cellsS58 a0 (a5, a3))), (156, pt a6 5)] (bm 12 31) (by kernel_rfl) (by kernel_rfl) ?_
    refine ED.Y hN hF hC 5 6 (bm 12 63) (by kernel_rfl) (by kernel_rfl) rfl (fun _ _ _ hS => YO.loadBox hS 1 rfl 21 5 1 (ib a0.f4.f1) 157 (by kernel_rfl) (by kernel_rfl) (by kernel_rfl) (by kernel_rfl)) ?_
    refine ED.one 6 5 (bm 12 127) (by kernel_rfl) (by kernel_rfl) (by kernel_rfl) (EO.lit hS (Kd.int .i32) 21 54 1 #[(0, ib a0.f4.f1)] [ib a0.f4.f1] u1 158 (by kernel_rfl) (by kernel_rfl) (by kernel_rfl) (fun _ => (by kernel_rfl)) (by rw [C6]; rfl) (by kernel_rfl) (fun w G hr => (by rw [C6]; exact ⟨[ib a0.f4.f1], [], rfl, rfl, rfl⟩)) ?_)
    intro B8 w hS
    have hC := hC.again ⟨_, _, hS.re [4, 2] [] rfl sub_self⟩
    refine ⟨hC, ?_⟩
    have hS := St.fr hS 0 rfl
    have hS : St B _ (Ass.box 32 a4 [ia a7, ib 1] :: Ass.box 63 a2 (encS63 zS63) :: Ass.box 58 a1 (cellsS58 zS58 (none, 0)) :: Ass.box 58 a6 (cellsS58 a0 (a5, a3)) :: os) (Ro.sl (Kd.int .i32) a5 a3 a0.f3 :: Ro.sl (Kd.int .i32) (some ⟨B8, 0, none⟩) 1 u1 :: Ro.sl (Kd.slice kS32) b7 b8 b6 :: rs) := hS.re [] [] rfl (sub_cons 1 rfl (sub_cons 0 rfl (sub_tail (sub_tail (sub_self)))))
    have hq := confidantref9_went.calls E2 hS
    refine ED.one 7 4 (bm 12 255) (by kernel_rfl) (by kernel_rfl) (by kernel_rfl) (EO.callD 56 [ag (cellsS58 a0 (a5, a3)), ia 0, sv (some ⟨B8, 0, none⟩) 1 u1] _ 159 (by kernel_rfl) (by kernel_rfl) (by kernel_rfl) hq ?_)
    rintro v w ⟨i3, j8, rfl, hS⟩
    have hC := hC.again ⟨_, _, hS.re [3, 1] [] rfl (sub_cons 1 rfl (sub_cons 3 rfl sub_self))⟩
    refine ⟨hC, ?_⟩
    refine ED.quick hN hF hC [8, 9] [4, 5, 160, 161] 2 [(4, pt a1 0), (5, pt a2 0), (160, ag (cellsS58 f8 (i3, j8))), (161, ag (encS63 n4))] (bm 12 1023) (by kernel_rfl) (by kernel_rfl) ?_
    refine ED.one 10 1 (bm 12 2047) (by kernel_rfl) (by kernel_rfl) (by kernel_rfl) (EO.storeBox (os' := Ass.box 32 a4 [ia a7, ib 1] :: Ass.box 63 a2 (encS63 zS63) :: Ass.box 58 a1 (cellsS58 f8 (i3, j8)) :: Ass.box 58 a6 (cellsS58 a0 (a5, a3)) :: os) hS 2 rfl 58 0 (ag (cellsS58 f8 (i3, j8))) (cellsS58 f8 (i3, j8)) (by kernel_rfl) (by kernel_rfl) (by kernel_rfl) (by kernel_rfl) (by kernel_rfl) (by kernel_rfl) rfl rfl ?_)
    intro w hS
    have hC := hC.again ⟨_, _, hS.re [3, 1] [] rfl (sub_cons 1 rfl (sub_cons 3 rfl sub_self))⟩
    refine ⟨hC, ?_⟩
    refine ED.one 11 0 (bm 12 4095) (by kernel_rfl) (by kernel_rfl) (by kernel_rfl) (EO.storeBox (os' := Ass.box 32 a4 [ia a7, ib 1] :: Ass.box 63 a2 (encS63 n4) :: Ass.box 58 a1 (cellsS58 f8 (i3, j8)) :: Ass.box 58 a6 (cellsS58 a0 (a5, a3)) :: os) hS 1 rfl 63 0 (ag (encS63 n4)) (encS63 n4) (by kernel_rfl) (by kernel_rfl) (by kernel_rfl) (by kernel_rfl) (by kernel_rfl) (by kernel_rfl) rfl rfl ?_)
    intro w hS
    have hC := hC.again ⟨_, _, hS.re [3, 1] [] rfl (sub_cons 1 rfl (sub_cons 3 rfl sub_self))⟩
    refine ⟨hC, ?_⟩
    refine ED.done (by kernel_rfl) ?_
    refine EQ.code ?_
    refine EW.ret (by kernel_rfl) ?_
    refine EQ.ret ?_
    refine EQ.ret ?_
    refine EQ.ret ?_
    simp only [cellsS58, encS63, Option.some.injEq, Prod.mk.injEq] at H
    obtain ⟨rfl, rfl⟩ := H
    exact EQ.leave2 hS (.cell 4 58) (.cell 5 63) (ag (cellsS58 f8 (i3, j8))) (ag (encS63 n4)) (by kernel_rfl) ⟨2, 58, a1, (cellsS58 f8 (i3, j8)), 0, 12, rfl, (by kernel_rfl), (by kernel_rfl)⟩ ⟨1, 63, a2, (encS63 n4), 0, 3, rfl, (by kernel_rfl), (by kernel_rfl)⟩ ⟨_, rfl, i3, j8, rfl, (hS.re [] [0, 0, 0, 0] rfl (sub_cons 0 rfl (sub_cons 1 rfl (sub_cons 3 rfl (sub_tail (sub_tail (sub_tail (sub_tail (sub_self)))))))))⟩
   rw [if_neg A0] at H
   by_cases A1 : a8 = 2
   ·rw [if_pos A1] at H
    refine EW.keep [2, 4, 5, 6] [(2, pt a6 0), (4, pt a1 0), (5, pt a2 0), (6, pt a4 0)] (by kernel_rfl) ?_
    have hS := St.as (os' := Ass.box 32 a4 [ia a7, ib 2] :: Ass.box 63 a2 (encS63 zS63) :: Ass.box 58 a1 (cellsS58 zS58 (none, 0)) :: Ass.box 58 a6 (cellsS58 a0 (a5, a3)) :: os) hS (by simp only [cellsS58, encS63, A1])
    obtain ⟨u2, C7, H⟩ := lt_out H
    obtain ⟨n5, f9, E3, H⟩ := b2_out H
    have hS := hS.drew
    refine EW.dr (B := B) [Ass.box 32 a4 [ia a7, ib 2], Ass.box 58 a6 (cellsS58 a0 (a5, a3))] [Ro.sl (Kd.int .i32) a5 a3 a0.f3, Ro.sl (Kd.slice kS32) b7 b8 b6] (by kernel_rfl) (by kernel_rfl) ?_
    have hN : Region.noSelect Cd29.r.r.r.r.r.r.r.r.r.l.r.l.r.r.r.r.r.r.r.r.r.l.r.l.r.l.l.ops = true := (by kernel_rfl)
    have hF : freeAll Cd29.r.r.r.r.r.r.r.r.r.l.r.l.r.r.r.r.r.r.r.r.r.l.r.l.r.l.l.ops = true := (by kernel_rfl)
    have hC : Core B [Ass.box 32 a4 [ia a7, ib 2], Ass.box 58 a6 (cellsS58 a0 (a5, a3))] [Ro.sl (Kd.int .i32) a5 a3 a0.f3, Ro.sl (Kd.slice kS32) b7 b8 b6] _ := ⟨_, _, hS.re [3, 1] [] rfl sub_self⟩
    refine ED.quick hN hF hC [1, 3] [2, 4, 5, 153, 155] 10 [(2, pt a6 0), (4, pt a1 0), (5, pt a2 0), (153, pt a4 1), (155, pt a6 4)] (bm 12 10) (by kernel_rfl) (by kernel_rfl) ?_
    refine ED.Y hN hF hC 0 9 (bm 12 11) (by kernel_rfl) (by kernel_rfl) rfl (fun _ _ _ hS => YO.loadBox hS 1 rfl 58 0 12 (ag (cellsS58 a0 (a5, a3))) 152 (by kernel_rfl) (by kernel_rfl) (by kernel_rfl) (by kernel_rfl)) ?_
    refine ED.Y hN hF hC 2 8 (bm 12 15) (by kernel_rfl) (by kernel_rfl) rfl (fun _ _ _ hS => YO.loadBox hS 0 rfl 21 1 1 (ib 2) 154 (by kernel_rfl) (by kernel_rfl) (by kernel_rfl) (by kernel_rfl)) ?_
    refine ED.quick hN hF hC [4] [4, 5, 152, 156] 7 [(4, pt a1 0), (5, pt a2 0), (152, ag (cellsS58 a0 (a5, a3))), (156, pt a6 6)] (bm 12 31) (by kernel_rfl) (by kernel_rfl) ?_
    refine ED.Y hN hF hC 5 6 (bm 12 63) (by kernel_rfl) (by kernel_rfl) rfl (fun _ _ _ hS => YO.loadBox hS 1 rfl 21 6 1 (ib a0.f4.f2) 157 (by kernel_rfl) (by kernel_rfl) (by kernel_rfl) (by kernel_rfl)) ?_
    refine ED.one 6 5 (bm 12 127) (by kernel_rfl) (by kernel_rfl) (by kernel_rfl) (EO.lit hS (Kd.int .i32) 21 54 1 #[(0, ib a0.f4.f2)] [ib a0.f4.f2] u2 158 (by kernel_rfl) (by kernel_rfl) (by kernel_rfl) (fun _ => (by kernel_rfl)) (by rw [C7]; rfl) (by kernel_rfl) (fun w G hr => (by rw [C7]; exact ⟨[ib a0.f4.f2], [], rfl, rfl, rfl⟩)) ?_)
    intro B9 w hS
    have hC := hC.again ⟨_, _, hS.re [4, 2] [] rfl sub_self⟩
    refine ⟨hC, ?_⟩
    have hS := St.fr hS 0 rfl
    have hS : St B _ (Ass.box 32 a4 [ia a7, ib 2] :: Ass.box 63 a2 (encS63 zS63) :: Ass.box 58 a1 (cellsS58 zS58 (none, 0)) :: Ass.box 58 a6 (cellsS58 a0 (a5, a3)) :: os) (Ro.sl (Kd.int .i32) a5 a3 a0.f3 :: Ro.sl (Kd.int .i32) (some ⟨B9, 0, none⟩) 1 u2 :: Ro.sl (Kd.slice kS32) b7 b8 b6 :: rs) := hS.re [] [] rfl (sub_cons 1 rfl (sub_cons 0 rfl (sub_tail (sub_tail (sub_self)))))
    have hq := confidantref9_went.calls E3 hS
    refine ED.one 7 4 (bm 12 255) (by kernel_rfl) (by kernel_rfl) (by kernel_rfl) (EO.callD 56 [ag (cellsS58 a0 (a5, a3)), ia 0, sv (some ⟨B9, 0, none⟩) 1 u2] _ 159 (by kernel_rfl) (by kernel_rfl) (by kernel_rfl) hq ?_)
    rintro v w ⟨i4, j9, rfl, hS⟩
    have hC := hC.again ⟨_, _, hS.re [3, 1] [] rfl (sub_cons 1 rfl (sub_cons 3 rfl sub_self))⟩
    refine ⟨hC, ?_⟩
    refine ED.quick hN hF hC [8, 9] [4, 5, 160, 161] 2 [(4, pt a1 0), (5, pt a2 0), (160, ag (cellsS58 f9 (i4, j9))), (161, ag (encS63 n5))] (bm 12 1023) (by kernel_rfl) (by kernel_rfl) ?_
    refine ED.one 10 1 (bm 12 2047) (by kernel_rfl) (by kernel_rfl) (by kernel_rfl) (EO.storeBox (os' := Ass.box 32 a4 [ia a7, ib 2] :: Ass.box 63 a2 (encS63 zS63) :: Ass.box 58 a1 (cellsS58 f9 (i4, j9)) :: Ass.box 58 a6 (cellsS58 a0 (a5, a3)) :: os) hS 2 rfl 58 0 (ag (cellsS58 f9 (i4, j9))) (cellsS58 f9 (i4, j9)) (by kernel_rfl) (by kernel_rfl) (by kernel_rfl) (by kernel_rfl) (by kernel_rfl) (by kernel_rfl) rfl rfl ?_)
    intro w hS
    have hC := hC.again ⟨_, _, hS.re [3, 1] [] rfl (sub_cons 1 rfl (sub_cons 3 rfl sub_self))⟩
    refine ⟨hC, ?_⟩
    refine ED.one 11 0 (bm 12 4095) (by kernel_rfl) (by kernel_rfl) (by kernel_rfl) (EO.storeBox (os' := Ass.box 32 a4 [ia a7, ib 2] :: Ass.box 63 a2 (encS63 n5) :: Ass.box 58 a1 (cellsS58 f9 (i4, j9)) :: Ass.box 58 a6 (cellsS58 a0 (a5, a3)) :: os) hS 1 rfl 63 0 (ag (encS63 n5)) (encS63 n5) (by kernel_rfl) (by kernel_rfl) (by kernel_rfl) (by kernel_rfl) (by kernel_rfl) (by kernel_rfl) rfl rfl ?_)
    intro w hS
    have hC := hC.again ⟨_, _, hS.re [3, 1] [] rfl (sub_cons 1 rfl (sub_cons 3 rfl sub_self))⟩
    refine ⟨hC, ?_⟩
    refine ED.done (by kernel_rfl) ?_
    refine EQ.code ?_
    refine EW.ret (by kernel_rfl) ?_
    refine EQ.ret ?_
    refine EQ.ret ?_
    refine EQ.ret ?_
    simp only [cellsS58, encS63, Option.some.injEq, Prod.mk.injEq] at H
    obtain ⟨rfl, rfl⟩ := H
    exact EQ.leave2 hS (.cell 4 58) (.cell 5 63) (ag (cellsS58 f9 (i4, j9))) (ag (encS63 n5)) (by kernel_rfl) ⟨2, 58, a1, (cellsS58 f9 (i4, j9)), 0, 12, rfl, (by kernel_rfl), (by kernel_rfl)⟩ ⟨1, 63, a2, (encS63 n5), 0, 3, rfl, (by kernel_rfl), (by kernel_rfl)⟩ ⟨_, rfl, i4, j9, rfl, (hS.re [] [0, 0, 0, 0] rfl (sub_cons 0 rfl (sub_cons 1 rfl (sub_cons 3 rfl (sub_tail (sub_tail (sub_tail (sub_tail (sub_self)))))))))⟩
   rw [if_neg A1] at H
   by_cases A2 : a8 = 3
   ·rw [if_pos A2] at H
    refine EW.keep [2, 4, 5, 6] [(2, pt a6 0), (4, pt a1 0), (5, pt a2 0), (6, pt a4 0)] (by kernel_rfl) ?_
    have hS := St.as (os' := Ass.box 32 a4 [ia a7, ib 3] :: Ass.box 63 a2 (encS63 zS63) :: Ass.box 58 a1 (cellsS58 zS58 (none, 0)) :: Ass.box 58 a6 (cellsS58 a0 (a5, a3)) :: os) hS (by simp only [cellsS58, encS63, A2])
    obtain ⟨u3, C8, H⟩ := lt_out H
    obtain ⟨n6, g0, E4, H⟩ := b2_out H
    have hS := hS.drew
    refine EW.dr (B := B) [Ass.box 32 a4 [ia a7, ib 3], Ass.box 58 a6 (cellsS58 a0 (a5, a3))] [Ro.sl (Kd.int .i32) a5 a3 a0.f3, Ro.sl (Kd.slice kS32) b7 b8 b6] (by kernel_rfl) (by kernel_rfl) ?_
    have hN : Region.noSelect Cd29.r.r.r.r.r.r.r.r.r.l.r.l.r.r.r.r.r.r.r.r.r.l.r.l.r.l.l.ops = true := (by kernel_rfl)
    have hF : freeAll Cd29.r.r.r.r.r.r.r.r.r.l.r.l.r.r.r.r.r.r.r.r.r.l.r.l.r.l.l.ops = true := (by kernel_rfl)
    have hC : Core B [Ass.box 32 a4 [ia a7, ib 3], Ass.box 58 a6 (cellsS58 a0 (a5, a3))] [Ro.sl (Kd.int .i32) a5 a3 a0.f3, Ro.sl (Kd.slice kS32) b7 b8 b6] _ := ⟨_, _, hS.re [3, 1] [] rfl sub_self⟩
    refine ED.quick hN hF hC [1, 3] [2, 4, 5, 153, 155] 10 [(2, pt a6 0), (4, pt a1 0), (5, pt a2 0), (153, pt a4 1), (155, pt a6 4)] (bm 12 10) (by kernel_rfl) (by kernel_rfl) ?_
    refine ED.Y hN hF hC 0 9 (bm 12 11) (by kernel_rfl) (by kernel_rfl) rfl (fun _ _ _ hS => YO.loadBox hS 1 rfl 58 0 12 (ag (cellsS58 a0 (a5, a3))) 152 (by kernel_rfl) (by kernel_rfl) (by kernel_rfl) (by kernel_rfl)) ?_
    refine ED.Y hN hF hC 2 8 (bm 12 15) (by kernel_rfl) (by kernel_rfl) rfl (fun _ _ _ hS => YO.loadBox hS 0 rfl 21 1 1 (ib 3) 154 (by kernel_rfl) (by kernel_rfl) (by kernel_rfl) (by kernel_rfl)) ?_
    refine ED.quick hN hF hC [4] [4, 5, 152, 156] 7 [(4, pt a1 0), (5, pt a2 0), (152, ag (cellsS58 a0 (a5, a3))), (156, pt a6 7)] (bm 12 31) (by kernel_rfl) (by kernel_rfl) ?_
    refine ED.Y hN hF hC 5 6 (bm 12 63) (by kernel_rfl) (by kernel_rfl) rfl (fun _ _ _ hS => YO.loadBox hS 1 rfl 21 7 1 (ib a0.f4.f3) 157 (by kernel_rfl) (by kernel_rfl) (by kernel_rfl) (by kernel_rfl)) ?_
    refine ED.one 6 5 (bm 12 127) (by kernel_rfl) (by kernel_rfl) (by kernel_rfl) (EO.lit hS (Kd.int .i32) 21 54 1 #[(0, ib a0.f4.f3)] [ib a0.f4.f3] u3 158 (by kernel_rfl) (by kernel_rfl) (by kernel_rfl) (fun _ => (by kernel_rfl)) (by rw [C8]; rfl) (by kernel_rfl) (fun w G hr => (by rw [C8]; exact ⟨[ib a0.f4.f3], [], rfl, rfl, rfl⟩)) ?_)
    intro C0 w hS
    have hC := hC.again ⟨_, _, hS.re [4, 2] [] rfl sub_self⟩
    refine ⟨hC, ?_⟩
    have hS := St.fr hS 0 rfl
    have hS : St B _ (Ass.box 32 a4 [ia a7, ib 3] :: Ass.box 63 a2 (encS63 zS63) :: Ass.box 58 a1 (cellsS58 zS58 (none, 0)) :: Ass.box 58 a6 (cellsS58 a0 (a5, a3)) :: os) (Ro.sl (Kd.int .i32) a5 a3 a0.f3 :: Ro.sl (Kd.int .i32) (some ⟨C0, 0, none⟩) 1 u3 :: Ro.sl (Kd.slice kS32) b7 b8 b6 :: rs) := hS.re [] [] rfl (sub_cons 1 rfl (sub_cons 0 rfl (sub_tail (sub_tail (sub_self)))))
    have hq := confidantref9_went.calls E4 hS
    refine ED.one 7 4 (bm 12 255) (by kernel_rfl) (by kernel_rfl) (by kernel_rfl) (EO.callD 56 [ag (cellsS58 a0 (a5, a3)), ia 0, sv (some ⟨C0, 0, none⟩) 1 u3] _ 159 (by kernel_rfl) (by kernel_rfl) (by kernel_rfl) hq ?_)
    rintro v w ⟨i5, m0, rfl, hS⟩
    have hC := hC.again ⟨_, _, hS.re [3, 1] [] rfl (sub_cons 1 rfl (sub_cons 3 rfl sub_self))⟩
    refine ⟨hC, ?_⟩
    refine ED.quick hN hF hC [8, 9] [4, 5, 160, 161] 2 [(4, pt a1 0), (5, pt a2 0), (160, ag (cellsS58 g0 (i5, m0))), (161, ag (encS63 n6))] (bm 12 1023) (by kernel_rfl) (by kernel_rfl) ?_
    refine ED.one 10 1 (bm 12 2047) (by kernel_rfl) (by kernel_rfl) (by kernel_rfl) (EO.storeBox (os' := Ass.box 32 a4 [ia a7, ib 3] :: Ass.box 63 a2 (encS63 zS63) :: Ass.box 58 a1 (cellsS58 g0 (i5, m0)) :: Ass.box 58 a6 (cellsS58 a0 (a5, a3)) :: os) hS 2 rfl 58 0 (ag (cellsS58 g0 (i5, m0))) (cellsS58 g0 (i5, m0)) (by kernel_rfl) (by kernel_rfl) (by kernel_rfl) (by kernel_rfl) (by kernel_rfl) (by kernel_rfl) rfl rfl ?_)
    intro w hS
    have hC := hC.again ⟨_, _, hS.re [3, 1] [] rfl (sub_cons 1 rfl (sub_cons 3 rfl sub_self))⟩
    refine ⟨hC, ?_⟩
    refine ED.one 11 0 (bm 12 4095) (by kernel_rfl) (by kernel_rfl) (by kernel_rfl) (EO.storeBox (os' := Ass.box 32 a4 [ia a7, ib 3] :: Ass.box 63 a2 (encS63 n6) :: Ass.box 58 a1 (cellsS58 g0 (i5, m0)) :: Ass.box 58 a6 (cellsS58 a0 (a5, a3)) :: os) hS 1 rfl 63 0 (ag (encS63 n6)) (encS63 n6) (by kernel_rfl) (by kernel_rfl) (by kernel_rfl) (by kernel_rfl) (by kernel_rfl) (by kernel_rfl) rfl rfl ?_)
    intro w hS
    have hC := hC.again ⟨_, _, hS.re [3, 1] [] rfl (sub_cons 1 rfl (sub_cons 3 rfl sub_self))⟩
    refine ⟨hC, ?_⟩
    refine ED.done (by kernel_rfl) ?_
    refine EQ.code ?_
    refine EW.ret (by kernel_rfl) ?_
    refine EQ.ret ?_
    refine EQ.ret ?_
    refine EQ.ret ?_
    simp only [cellsS58, encS63, Option.some.injEq, Prod.mk.injEq] at H
    obtain ⟨rfl, rfl⟩ := H
    exact EQ.leave2 hS (.cell 4 58) (.cell 5 63) (ag (cellsS58 g0 (i5, m0))) (ag (encS63 n6)) (by kernel_rfl) ⟨2, 58, a1, (cellsS58 g0 (i5, m0)), 0, 12, rfl, (by kernel_rfl), (by kernel_rfl)⟩ ⟨1, 63, a2, (encS63 n6), 0, 3, rfl, (by kernel_rfl), (by kernel_rfl)⟩ ⟨_, rfl, i5, m0, rfl, (hS.re [] [0, 0, 0, 0] rfl (sub_cons 0 rfl (sub_cons 1 rfl (sub_cons 3 rfl (sub_tail (sub_tail (sub_tail (sub_tail (sub_self)))))))))⟩
   rw [if_neg A2] at H
   cases H
  rw [if_neg z8] at H
  refine EW.skip (by kernel_rfl) ?_
  refine EQ.code ?_
  refine EW.sq (by kernel_rfl) ?_
  refine EW.rg (by kernel_rfl) ?_
  refine EL.of (EO.Y (YO.loadBox hS 3 rfl 58 0 12 (ag (cellsS58 a0 (a5, a3))) 163 (by kernel_rfl) (by kernel_rfl) (by kernel_rfl) (by kernel_rfl)) ?_)
  have hS := St.nilR hS (Kd.int .i32)
  have hS : St B _ (Ass.box 32 a4 [ia a7, ib a8] :: Ass.box 63 a2 (encS63 zS63) :: Ass.box 58 a1 (cellsS58 zS58 (none, 0)) :: Ass.box 58 a6 (cellsS58 a0 (a5, a3)) :: os) (Ro.sl (Kd.int .i32) a5 a3 a0.f3 :: Ro.sl (Kd.int .i32) none 0 ([] : List Int) :: Ro.sl (Kd.slice kS32) b7 b8 b6 :: rs) := hS.re [] [] rfl (sub_cons 1 rfl (sub_cons 0 rfl (sub_tail (sub_tail (sub_self)))))
  obtain ⟨c8, b4, E5, H⟩ := b2_out H
  have hq := confidantref9_went.calls E5 hS
  refine EL.of (EO.callD 56 [ag (cellsS58 a0 (a5, a3)), ia 1, sv none 0 ([] : List Int)] _ 164 (by kernel_rfl) (by kernel_rfl) (by kernel_rfl) hq ?_)
  rintro v w ⟨c1, c2, rfl, hS⟩
  refine EL.quick 3 [4, 5, 6, 11, 165, 166] [(4, pt a1 0), (5, pt a2 0), (6, pt a4 0), (11, ib a9), (165, ag (cellsS58 b4 (c1, c2))), (166, ag (encS63 c8))] (by kernel_rfl) ?_
  refine EL.of (EO.alloc hS 58 (ag (cellsS58 zS58 (none, 0))) (cellsS58 zS58 (none, 0)) 15 (by kernel_rfl) (by kernel_rfl) (by kernel_rfl) (by kernel_rfl) (by first | rfl | kernel_rfl) ?_)
  intro b9 w hS
  refine EL.of (EO.alloc hS 63 (ag (encS63 zS63)) (encS63 zS63) 16 (by kernel_rfl) (by kernel_rfl) (by kernel_rfl) (by kernel_rfl) (by first | rfl | kernel_rfl) ?_)
  intro c0 w hS
  refine EL.of (EO.storeBox (os' := Ass.box 63 c0 (encS63 zS63) :: Ass.box 58 b9 (cellsS58 b4 (c1, c2)) :: Ass.box 32 a4 [ia a7, ib a8] :: Ass.box 63 a2 (encS63 zS63) :: Ass.box 58 a1 (cellsS58 zS58 (none, 0)) :: Ass.box 58 a6 (cellsS58 a0 (a5, a3)) :: os) hS 1 rfl 58 0 (ag (cellsS58 b4 (c1, c2))) (cellsS58 b4 (c1, c2)) (by kernel_rfl) (by kernel_rfl) (by kernel_rfl) (by kernel_rfl) (by kernel_rfl) (by kernel_rfl) rfl rfl ?_)
  intro w hS
  refine EL.of (EO.storeBox (os' := Ass.box 63 c0 (encS63 c8) :: Ass.box 58 b9 (cellsS58 b4 (c1, c2)) :: Ass.box 32 a4 [ia a7, ib a8] :: Ass.box 63 a2 (encS63 zS63) :: Ass.box 58 a1 (cellsS58 zS58 (none, 0)) :: Ass.box 58 a6 (cellsS58 a0 (a5, a3)) :: os) hS 0 rfl 63 0 (ag (encS63 c8)) (encS63 c8) (by kernel_rfl) (by kernel_rfl) (by kernel_rfl) (by kernel_rfl) (by kernel_rfl) (by kernel_rfl) rfl rfl ?_)
  intro w hS
  refine EL.done (by kernel_rfl) ?_
  refine EQ.code ?_
  obtain ⟨q8, F9, H⟩ := lt_out H
  refine EW.ct (fun a w => ∃ d2 : Int, ∃ d3 : Int, ∃ d4 : Int, ∃ d5 : Int, Sat 218 [(4, pt a1 0), (5, pt a2 0), (15, pt b9 0), (16, pt c0 0)] a ∧ St B w (Ass.box 63 c0 (encS63 c8) :: Ass.box 58 b9 (cellsS58 {b4 with f4 := {b4.f4 with f0 := d2, f1 := d3, f2 := d4, f3 := d5}} (c1, c2)) :: Ass.box 32 a4 [ia a7, ib a8] :: Ass.box 63 a2 (encS63 zS63) :: Ass.box 58 a1 (cellsS58 zS58 (none, 0)) :: Ass.box 58 a6 (cellsS58 a0 (a5, a3)) :: os) (Ro.sl (Kd.int .i32) c1 c2 b4.f3 :: Ro.sl (Kd.int .i32) a5 a3 a0.f3 :: Ro.sl (Kd.int .i32) none 0 ([] : List Int) :: Ro.sl (Kd.slice kS32) b7 b8 b6 :: rs) ∧ q8 d2 d3 d4 d5 = some (e3, d9)) (by kernel_rfl) ?_ (fun a w hI => ?_)
  ·refine EW.rg (by kernel_rfl) ?_
   refine EL.quick 1 [4, 5, 11, 15, 16, 167] [(4, pt a1 0), (5, pt a2 0), (11, ib a9), (15, pt b9 0), (16, pt c0 0), (167, pt a4 1)] (by kernel_rfl) ?_
   refine EL.of (EO.Y (YO.loadBox hS 2 rfl 21 1 1 (ib a8) 168 (by kernel_rfl) (by kernel_rfl) (by kernel_rfl) (by kernel_rfl)) ?_)
   refine EL.quick 2 [4, 5, 15, 16, 168, 169, 170] [(4, pt a1 0), (5, pt a2 0), (15, pt b9 0), (16, pt c0 0), (168, ib a8), (169, ib a9), (170, pt b9 4)] (by kernel_rfl) ?_
   by_cases A3 : a8 = 0
   ·rw [if_pos A3] at H
    refine EL.keep [4, 5, 15, 16, 168, 169, 170] [(4, pt a1 0), (5, pt a2 0), (15, pt b9 0), (16, pt c0 0), (168, ib a8), (169, ib a9), (170, pt b9 4)] (by kernel_rfl) ?_
    refine EL.as' [(4, pt a1 0), (5, pt a2 0), (15, pt b9 0), (16, pt c0 0), (168, ib 0), (169, ib a9), (170, pt b9 4)] (by simp only [cellsS58, encS63, A3]) ?_
    refine EL.quick 1 [4, 5, 15, 16, 169, 171] [(4, pt a1 0), (5, pt a2 0), (15, pt b9 0), (16, pt c0 0), (169, ib a9), (171, pt b9 4)] (by kernel_rfl) ?_
    refine EL.of (EO.storeBox (os' := Ass.box 63 c0 (encS63 c8) :: Ass.box 58 b9 (cellsS58 {b4 with f4 := {b4.f4 with f0 := a9}} (c1, c2)) :: Ass.box 32 a4 [ia a7, ib a8] :: Ass.box 63 a2 (encS63 zS63) :: Ass.box 58 a1 (cellsS58 zS58 (none, 0)) :: Ass.box 58 a6 (cellsS58 a0 (a5, a3)) :: os) hS 1 rfl 21 4 (ib a9) (cellsS58 {b4 with f4 := {b4.f4 with f0 := a9}} (c1, c2)) (by kernel_rfl) (by kernel_rfl) (by kernel_rfl) (by kernel_rfl) (by kernel_rfl) (by kernel_rfl) rfl rfl ?_)
    intro w hS
    refine EL.done (by kernel_rfl) ?_
    refine EQ.to ?_
    refine EQ.keep [4, 5, 15, 16] [(4, pt a1 0), (5, pt a2 0), (15, pt b9 0), (16, pt c0 0)] (by kernel_rfl) ?_
    exact fun a ha => ⟨a9, b4.f4.f1, b4.f4.f2, b4.f4.f3, ha, (hS.re [5, 5, 5, 5, 5, 5] [] rfl (sub_cons 0 rfl (sub_cons 1 rfl (sub_cons 2 rfl (sub_cons 3 rfl (sub_tail (sub_tail (sub_tail (sub_tail (sub_self)))))))))), H⟩
   rw [if_neg A3] at H
   by_cases A4 : a8 = 1
   ·rw [if_pos A4] at H
    refine EL.keep [4, 5, 15, 16, 168, 169, 170] [(4, pt a1 0), (5, pt a2 0), (15, pt b9 0), (16, pt c0 0), (168, ib a8), (169, ib a9), (170, pt b9 4)] (by kernel_rfl) ?_
    refine EL.as' [(4, pt a1 0), (5, pt a2 0), (15, pt b9 0), (16, pt c0 0), (168, ib 1), (169, ib a9), (170, pt b9 4)] (by simp only [cellsS58, encS63, A4]) ?_
    refine EL.quick 1 [4, 5, 15, 16, 169, 171] [(4, pt a1 0), (5, pt a2 0), (15, pt b9 0), (16, pt c0 0), (169, ib a9), (171, pt b9 5)] (by kernel_rfl) ?_
    refine EL.of (EO.storeBox (os' := Ass.box 63 c0 (encS63 c8) :: Ass.box 58 b9 (cellsS58 {b4 with f4 := {b4.f4 with f1 := a9}} (c1, c2)) :: Ass.box 32 a4 [ia a7, ib a8] :: Ass.box 63 a2 (encS63 zS63) :: Ass.box 58 a1 (cellsS58 zS58 (none, 0)) :: Ass.box 58 a6 (cellsS58 a0 (a5, a3)) :: os) hS 1 rfl 21 5 (ib a9) (cellsS58 {b4 with f4 := {b4.f4 with f1 := a9}} (c1, c2)) (by kernel_rfl) (by kernel_rfl) (by kernel_rfl) (by kernel_rfl) (by kernel_rfl) (by kernel_rfl) rfl rfl ?_)
    intro w hS
    refine EL.done (by kernel_rfl) ?_
    refine EQ.to ?_
    refine EQ.keep [4, 5, 15, 16] [(4, pt a1 0), (5, pt a2 0), (15, pt b9 0), (16, pt c0 0)] (by kernel_rfl) ?_
    exact fun a ha => ⟨b4.f4.f0, a9, b4.f4.f2, b4.f4.f3, ha, (hS.re [5, 5, 5, 5, 5, 5] [] rfl (sub_cons 0 rfl (sub_cons 1 rfl (sub_cons 2 rfl (sub_cons 3 rfl (sub_tail (sub_tail (sub_tail (sub_tail (sub_self)))))))))), H⟩
   rw [if_neg A4] at H
   by_cases A5 : a8 = 2
   ·rw [if_pos A5] at H
    refine EL.keep [4, 5, 15, 16, 168, 169, 170] [(4, pt a1 0), (5, pt a2 0), (15, pt b9 0), (16, pt c0 0), (168, ib a8), (169, ib a9), (170, pt b9 4)] (by kernel_rfl) ?_
    refine EL.as' [(4, pt a1 0), (5, pt a2 0), (15, pt b9 0), (16, pt c0 0), (168, ib 2), (169, ib a9), (170, pt b9 4)] (by simp only [cellsS58, encS63, A5]) ?_
    refine EL.quick 1 [4, 5, 15, 16, 169, 171] [(4, pt a1 0), (5, pt a2 0), (15, pt b9 0), (16, pt c0 0), (169, ib a9), (171, pt b9 6)] (by kernel_rfl) ?_
    refine EL.of (EO.storeBox (os' := Ass.box 63 c0 (encS63 c8) :: Ass.box 58 b9 (cellsS58 {b4 with f4 := {b4.f4 with f2 := a9}} (c1, c2)) :: Ass.box 32 a4 [ia a7, ib a8] :: Ass.box 63 a2 (encS63 zS63) :: Ass.box 58 a1 (cellsS58 zS58 (none, 0)) :: Ass.box 58 a6 (cellsS58 a0 (a5, a3)) :: os) hS 1 rfl 21 6 (ib a9) (cellsS58 {b4 with f4 := {b4.f4 with f2 := a9}} (c1, c2)) (by kernel_rfl) (by kernel_rfl) (by kernel_rfl) (by kernel_rfl) (by kernel_rfl) (by kernel_rfl) rfl rfl ?_)
    intro w hS
    refine EL.done (by kernel_rfl) ?_
    refine EQ.to ?_
    refine EQ.keep [4, 5, 15, 16] [(4, pt a1 0), (5, pt a2 0), (15, pt b9 0), (16, pt c0 0)] (by kernel_rfl) ?_
    exact fun a ha => ⟨b4.f4.f0, b4.f4.f1, a9, b4.f4.f3, ha, (hS.re [5, 5, 5, 5, 5, 5] [] rfl (sub_cons 0 rfl (sub_cons 1 rfl (sub_cons 2 rfl (sub_cons 3 rfl (sub_tail (sub_tail (sub_tail (sub_tail (sub_self)))))))))), H⟩
   rw [if_neg A5] at H
   by_cases A6 : a8 = 3
   ·rw [if_pos A6] at H
    refine EL.keep [4, 5, 15, 16, 168, 169, 170] [(4, pt a1 0), (5, pt a2 0), (15, pt b9 0), (16, pt c0 0), (168, ib a8), (169, ib a9), (170, pt b9 4)] (by kernel_rfl) ?_
    refine EL.as' [(4, pt a1 0), (5, pt a2 0), (15, pt b9 0), (16, pt c0 0), (168, ib 3), (169, ib a9), (170, pt b9 4)] (by simp only [cellsS58, encS63, A6]) ?_
    refine EL.quick 1 [4, 5, 15, 16, 169, 171] [(4, pt a1 0), (5, pt a2 0), (15, pt b9 0), (16, pt c0 0), (169, ib a9), (171, pt b9 7)] (by kernel_rfl) ?_
    refine EL.of (EO.storeBox (os' := Ass.box 63 c0 (encS63 c8) :: Ass.box 58 b9 (cellsS58 {b4 with f4 := {b4.f4 with f3 := a9}} (c1, c2)) :: Ass.box 32 a4 [ia a7, ib a8] :: Ass.box 63 a2 (encS63 zS63) :: Ass.box 58 a1 (cellsS58 zS58 (none, 0)) :: Ass.box 58 a6 (cellsS58 a0 (a5, a3)) :: os) hS 1 rfl 21 7 (ib a9) (cellsS58 {b4 with f4 := {b4.f4 with f3 := a9}} (c1, c2)) (by kernel_rfl) (by kernel_rfl) (by kernel_rfl) (by kernel_rfl) (by kernel_rfl) (by kernel_rfl) rfl rfl ?_)
    intro w hS
    refine EL.done (by kernel_rfl) ?_
    refine EQ.to ?_
    refine EQ.keep [4, 5, 15, 16] [(4, pt a1 0), (5, pt a2 0), (15, pt b9 0), (16, pt c0 0)] (by kernel_rfl) ?_
    exact fun a ha => ⟨b4.f4.f0, b4.f4.f1, b4.f4.f2, a9, ha, (hS.re [5, 5, 5, 5, 5, 5] [] rfl (sub_cons 0 rfl (sub_cons 1 rfl (sub_cons 2 rfl (sub_cons 3 rfl (sub_tail (sub_tail (sub_tail (sub_tail (sub_self)))))))))), H⟩
   rw [if_neg A6] at H
   cases H
  obtain ⟨d2, d3, d4, d5, ha, hS, H⟩ := hI
  rw [F9] at H
  (try dsimp only at H)
  refine EW.at ?_ a ha
  clear ha a
  refine EW.sq (by kernel_rfl) ?_
  have hS := hS.drew
  refine EW.dr (B := B) [Ass.box 63 c0 (encS63 c8), Ass.box 58 b9 (cellsS58 {b4 with f4 := {b4.f4 with f0 := d2, f1 := d3, f2 := d4, f3 := d5}} (c1, c2)), Ass.box 32 a4 [ia a7, ib a8], Ass.box 58 a6 (cellsS58 a0 (a5, a3))] [Ro.sl (Kd.int .i32) c1 c2 b4.f3, Ro.sl (Kd.int .i32) a5 a3 a0.f3, Ro.sl (Kd.int .i32) none 0 ([] : List Int), Ro.sl (Kd.slice kS32) b7 b8 b6] (by kernel_rfl) (by kernel_rfl) ?_
  have hN : Region.noSelect Cd29.r.r.r.r.r.r.r.r.r.l.r.l.r.r.r.r.r.r.r.r.r.l.r.r.r.r.l.ops = true := (by kernel_rfl)
  have hF : freeAll Cd29.r.r.r.r.r.r.r.r.r.l.r.l.r.r.r.r.r.r.r.r.r.l.r.r.r.r.l.ops = true := (by kernel_rfl)
  have hC : Core B [Ass.box 63 c0 (encS63 c8), Ass.box 58 b9 (cellsS58 {b4 with f4 := {b4.f4 with f0 := d2, f1 := d3, f2 := d4, f3 := d5}} (c1, c2)), Ass.box 32 a4 [ia a7, ib a8], Ass.box 58 a6 (cellsS58 a0 (a5, a3))] [Ro.sl (Kd.int .i32) c1 c2 b4.f3, Ro.sl (Kd.int .i32) a5 a3 a0.f3, Ro.sl (Kd.int .i32) none 0 ([] : List Int), Ro.sl (Kd.slice kS32) b7 b8 b6] _ := ⟨_, _, hS.re [5, 3, 3, 3] [] rfl sub_self⟩
  refine ED.Y hN hF hC 0 3 (bm 4 1) (by kernel_rfl) (by kernel_rfl) rfl (fun _ _ _ hS => YO.loadBox hS 1 rfl 58 0 12 (ag (cellsS58 {b4 with f4 := {b4.f4 with f0 := d2, f1 := d3, f2 := d4, f3 := d5}} (c1, c2))) 172 (by kernel_rfl) (by kernel_rfl) (by kernel_rfl) (by kernel_rfl)) ?_
  refine ED.Y hN hF hC 1 2 (bm 4 3) (by kernel_rfl) (by kernel_rfl) rfl (fun _ _ _ hS => YO.loadBox hS 0 rfl 63 0 3 (ag (encS63 c8)) 173 (by kernel_rfl) (by kernel_rfl) (by kernel_rfl) (by kernel_rfl)) ?_
  refine ED.one 2 1 (bm 4 7) (by kernel_rfl) (by kernel_rfl) (by kernel_rfl) (EO.storeBox (os' := Ass.box 63 c0 (encS63 c8) :: Ass.box 58 b9 (cellsS58 {b4 with f4 := {b4.f4 with f0 := d2, f1 := d3, f2 := d4, f3 := d5}} (c1, c2)) :: Ass.box 32 a4 [ia a7, ib a8] :: Ass.box 63 a2 (encS63 zS63) :: Ass.box 58 a1 (cellsS58 {b4 with f4 := {b4.f4 with f0 := d2, f1 := d3, f2 := d4, f3 := d5}} (c1, c2)) :: Ass.box 58 a6 (cellsS58 a0 (a5, a3)) :: os) hS 4 rfl 58 0 (ag (cellsS58 {b4 with f4 := {b4.f4 with f0 := d2, f1 := d3, f2 := d4, f3 := d5}} (c1, c2))) (cellsS58 {b4 with f4 := {b4.f4 with f0 := d2, f1 := d3, f2 := d4, f3 := d5}} (c1, c2)) (by kernel_rfl) (by kernel_rfl) (by kernel_rfl) (by kernel_rfl) (by kernel_rfl) (by kernel_rfl) rfl rfl ?_)
  intro w hS
  have hC := hC.again ⟨_, _, hS.re [5, 3, 3, 3] [] rfl sub_self⟩
  refine ⟨hC, ?_⟩
  refine ED.one 3 0 (bm 4 15) (by kernel_rfl) (by kernel_rfl) (by kernel_rfl) (EO.storeBox (os' := Ass.box 63 c0 (encS63 c8) :: Ass.box 58 b9 (cellsS58 {b4 with f4 := {b4.f4 with f0 := d2, f1 := d3, f2 := d4, f3 := d5}} (c1, c2)) :: Ass.box 32 a4 [ia a7, ib a8] :: Ass.box 63 a2 (encS63 c8) :: Ass.box 58 a1 (cellsS58 {b4 with f4 := {b4.f4 with f0 := d2, f1 := d3, f2 := d4, f3 := d5}} (c1, c2)) :: Ass.box 58 a6 (cellsS58 a0 (a5, a3)) :: os) hS 3 rfl 63 0 (ag (encS63 c8)) (encS63 c8) (by kernel_rfl) (by kernel_rfl) (by kernel_rfl) (by kernel_rfl) (by kernel_rfl) (by kernel_rfl) rfl rfl ?_)
  intro w hS
  have hC := hC.again ⟨_, _, hS.re [5, 3, 3, 3] [] rfl sub_self⟩
  refine ⟨hC, ?_⟩
  refine ED.done (by kernel_rfl) ?_
  refine EQ.code ?_
  refine EW.ret (by kernel_rfl) ?_
  refine EQ.ret ?_
  refine EQ.ret ?_
  simp only [cellsS58, encS63, Option.some.injEq, Prod.mk.injEq] at H
  obtain ⟨rfl, rfl⟩ := H
  exact EQ.leave2 hS (.cell 4 58) (.cell 5 63) (ag (cellsS58 {b4 with f4 := {b4.f4 with f0 := d2, f1 := d3, f2 := d4, f3 := d5}} (c1, c2))) (ag (encS63 c8)) (by kernel_rfl) ⟨4, 58, a1, (cellsS58 {b4 with f4 := {b4.f4 with f0 := d2, f1 := d3, f2 := d4, f3 := d5}} (c1, c2)), 0, 12, rfl, (by kernel_rfl), (by kernel_rfl)⟩ ⟨3, 63, a2, (encS63 c8), 0, 3, rfl, (by kernel_rfl), (by kernel_rfl)⟩ ⟨_, rfl, c1, c2, rfl, (hS.re [] [0, 0, 0, 0, 0, 0] rfl (sub_cons 0 rfl (sub_cons 1 rfl (sub_cons 3 rfl (sub_tail (sub_tail (sub_tail (sub_tail (sub_self)))))))))⟩
 rw [if_neg z6] at H
 refine EW.sq (by kernel_rfl) ?_
 refine EW.rg (by kernel_rfl) ?_
 refine EL.quick 2 [2, 4, 5, 6, 11, 12, 86, 174] [(2, pt a6 0), (4, pt a1 0), (5, pt a2 0), (6, pt a4 0), (11, ib a9), (12, ib c3), (86, ia a7), (174, .bool (decide (a7 = 14)))] (by kernel_rfl) ?_
 refine EL.done (by kernel_rfl) ?_
 refine EQ.code ?_
 refine EW.cdP (a7 = 14) (by kernel_rfl) (by kernel_rfl) (fun A7 => ?_) (fun A7 => ?_)
 ·rw [if_pos A7] at H
  refine EW.sq (by kernel_rfl) ?_
  refine EW.rg (by kernel_rfl) ?_
  refine EL.of (EO.Y (YO.loadBox hS 3 rfl 58 0 12 (ag (cellsS58 a0 (a5, a3))) 176 (by kernel_rfl) (by kernel_rfl) (by kernel_rfl) (by kernel_rfl)) ?_)
  refine EL.quick 1 [4, 5, 176, 177] [(4, pt a1 0), (5, pt a2 0), (176, ag (cellsS58 a0 (a5, a3))), (177, pt a6 8)] (by kernel_rfl) ?_
  refine EL.of (EO.Y (YO.loadBox hS 3 rfl 3 8 1 (ia a0.f5) 178 (by kernel_rfl) (by kernel_rfl) (by kernel_rfl) (by kernel_rfl)) ?_)
  refine EL.quick 1 [4, 5, 176, 179] [(4, pt a1 0), (5, pt a2 0), (176, ag (cellsS58 a0 (a5, a3))), (179, ib (IntKind.i32.wrap a0.f5))] (by kernel_rfl) ?_
  obtain ⟨u4, C9, H⟩ := lt_out H
  refine EL.of (EO.lit hS (Kd.int .i32) 21 54 1 #[(0, ib (IntKind.i32.wrap a0.f5))] [ib (IntKind.i32.wrap a0.f5)] u4 180 (by kernel_rfl) (by kernel_rfl) (by kernel_rfl) (fun _ => (by kernel_rfl)) (by rw [C9]; rfl) (by kernel_rfl) (fun w G hr => (by rw [C9]; exact ⟨[ib (IntKind.i32.wrap a0.f5)], [], rfl, rfl, rfl⟩)) ?_)
  intro C1 w hS
  have hS := St.fr hS 0 rfl
  have hS : St B _ (Ass.box 32 a4 [ia a7, ib a8] :: Ass.box 63 a2 (encS63 zS63) :: Ass.box 58 a1 (cellsS58 zS58 (none, 0)) :: Ass.box 58 a6 (cellsS58 a0 (a5, a3)) :: os) (Ro.sl (Kd.int .i32) a5 a3 a0.f3 :: Ro.sl (Kd.int .i32) (some ⟨C1, 0, none⟩) 1 u4 :: Ro.sl (Kd.slice kS32) b7 b8 b6 :: rs) := hS.re [] [] rfl (sub_cons 1 rfl (sub_cons 0 rfl (sub_tail (sub_tail (sub_self)))))
  obtain ⟨n7, g1, E6, H⟩ := b2_out H
  have hq := confidantref9_went.calls E6 hS
  refine EL.of (EO.callD 56 [ag (cellsS58 a0 (a5, a3)), ia 0, sv (some ⟨C1, 0, none⟩) 1 u4] _ 181 (by kernel_rfl) (by kernel_rfl) (by kernel_rfl) hq ?_)
  rintro v w ⟨i6, m1, rfl, hS⟩
  refine EL.quick 2 [4, 5, 182, 183] [(4, pt a1 0), (5, pt a2 0), (182, ag (cellsS58 g1 (i6, m1))), (183, ag (encS63 n7))] (by kernel_rfl) ?_
  refine EL.of (EO.storeBox (os' := Ass.box 32 a4 [ia a7, ib a8] :: Ass.box 63 a2 (encS63 zS63) :: Ass.box 58 a1 (cellsS58 g1 (i6, m1)) :: Ass.box 58 a6 (cellsS58 a0 (a5, a3)) :: os) hS 2 rfl 58 0 (ag (cellsS58 g1 (i6, m1))) (cellsS58 g1 (i6, m1)) (by kernel_rfl) (by kernel_rfl) (by kernel_rfl) (by kernel_rfl) (by kernel_rfl) (by kernel_rfl) rfl rfl ?_)
  intro w hS
  refine EL.of (EO.storeBox (os' := Ass.box 32 a4 [ia a7, ib a8] :: Ass.box 63 a2 (encS63 n7) :: Ass.box 58 a1 (cellsS58 g1 (i6, m1)) :: Ass.box 58 a6 (cellsS58 a0 (a5, a3)) :: os) hS 1 rfl 63 0 (ag (encS63 n7)) (encS63 n7) (by kernel_rfl) (by kernel_rfl) (by kernel_rfl) (by kernel_rfl) (by kernel_rfl) (by kernel_rfl) rfl rfl ?_)
  intro w hS
  refine EL.done (by kernel_rfl) ?_
  refine EQ.code ?_
  refine EW.ret (by kernel_rfl) ?_
  refine EQ.ret ?_
  refine EQ.ret ?_
  simp only [cellsS58, encS63, Option.some.injEq, Prod.mk.injEq] at H
  obtain ⟨rfl, rfl⟩ := H
  exact EQ.leave2 hS (.cell 4 58) (.cell 5 63) (ag (cellsS58 g1 (i6, m1))) (ag (encS63 n7)) (by kernel_rfl) ⟨2, 58, a1, (cellsS58 g1 (i6, m1)), 0, 12, rfl, (by kernel_rfl), (by kernel_rfl)⟩ ⟨1, 63, a2, (encS63 n7), 0, 3, rfl, (by kernel_rfl), (by kernel_rfl)⟩ ⟨_, rfl, i6, m1, rfl, (hS.re [] [0, 0, 0, 0] rfl (sub_cons 0 rfl (sub_cons 1 rfl (sub_cons 3 rfl (sub_tail (sub_tail (sub_tail (sub_tail (sub_self)))))))))⟩
 rw [if_neg A7] at H
 refine EW.sq (by kernel_rfl) ?_
 refine EW.rg (by kernel_rfl) ?_
 refine EL.quick 2 [2, 4, 5, 6, 11, 12, 86, 184] [(2, pt a6 0), (4, pt a1 0), (5, pt a2 0), (6, pt a4 0), (11, ib a9), (12, ib c3), (86, ia a7), (184, .bool (decide (a7 = 25)))] (by kernel_rfl) ?_
 refine EL.done (by kernel_rfl) ?_
 refine EQ.code ?_
 refine EW.cdP (a7 = 25) (by kernel_rfl) (by kernel_rfl) (fun A8 => ?_) (fun A8 => ?_)
 ·rw [if_pos A8] at H
  refine EW.sq (by kernel_rfl) ?_
  refine EW.rg (by kernel_rfl) ?_
  refine EL.of (EO.Y (YO.loadBox hS 3 rfl 58 0 12 (ag (cellsS58 a0 (a5, a3))) 186 (by kernel_rfl) (by kernel_rfl) (by kernel_rfl) (by kernel_rfl)) ?_)
  refine EL.quick 2 [4, 5, 186, 188] [(4, pt a1 0), (5, pt a2 0), (186, ag (cellsS58 a0 (a5, a3))), (188, ag [ia 2, ib a9, ia 0])] (by kernel_rfl) ?_
  refine EL.of (EO.storeBox (os' := Ass.box 32 a4 [ia a7, ib a8] :: Ass.box 63 a2 (encS63 zS63) :: Ass.box 58 a1 (cellsS58 a0 (a5, a3)) :: Ass.box 58 a6 (cellsS58 a0 (a5, a3)) :: os) hS 2 rfl 58 0 (ag (cellsS58 a0 (a5, a3))) (cellsS58 a0 (a5, a3)) (by kernel_rfl) (by kernel_rfl) (by kernel_rfl) (by kernel_rfl) (by kernel_rfl) (by kernel_rfl) rfl rfl ?_)
  intro w hS
  refine EL.of (EO.storeBox (os' := Ass.box 32 a4 [ia a7, ib a8] :: Ass.box 63 a2 [ia 2, ib a9, ia 0] :: Ass.box 58 a1 (cellsS58 a0 (a5, a3)) :: Ass.box 58 a6 (cellsS58 a0 (a5, a3)) :: os) hS 1 rfl 63 0 (ag [ia 2, ib a9, ia 0]) [ia 2, ib a9, ia 0] (by kernel_rfl) (by kernel_rfl) (by kernel_rfl) (by kernel_rfl) (by kernel_rfl) (by kernel_rfl) rfl rfl ?_)
  intro w hS
  refine EL.done (by kernel_rfl) ?_
  refine EQ.code ?_
  refine EW.ret (by kernel_rfl) ?_
  refine EQ.ret ?_
  refine EQ.ret ?_
  simp only [cellsS58, encS63, Option.some.injEq, Prod.mk.injEq] at H
  obtain ⟨rfl, rfl⟩ := H
  exact EQ.leave2 hS (.cell 4 58) (.cell 5 63) (ag (cellsS58 a0 (a5, a3))) (ag [ia 2, ib a9, ia 0]) (by kernel_rfl) ⟨2, 58, a1, (cellsS58 a0 (a5, a3)), 0, 12, rfl, (by kernel_rfl), (by kernel_rfl)⟩ ⟨1, 63, a2, [ia 2, ib a9, ia 0], 0, 3, rfl, (by kernel_rfl), (by kernel_rfl)⟩ ⟨_, rfl, a5, a3, rfl, (hS.re [] [0, 0, 0, 0] rfl (sub_cons 0 rfl (sub_self)))⟩
 rw [if_neg A8] at H
 refine EW.sq (by kernel_rfl) ?_
 refine EW.rg (by kernel_rfl) ?_
 refine EL.quick 2 [2, 4, 5, 6, 11, 12, 189] [(2, pt a6 0), (4, pt a1 0), (5, pt a2 0), (6, pt a4 0), (11, ib a9), (12, ib c3), (189, .bool (decide (a7 = 26)))] (by kernel_rfl) ?_
 refine EL.done (by kernel_rfl) ?_
 refine EQ.code ?_
 refine EW.cdP (a7 = 26) (by kernel_rfl) (by kernel_rfl) (fun A9 => ?_) (fun A9 => ?_)
 ·rw [if_pos A9] at H
  refine EW.sq (by kernel_rfl) ?_
  refine EW.rg (by kernel_rfl) ?_
  refine EL.of (EO.Y (YO.loadBox hS 3 rfl 58 0 12 (ag (cellsS58 a0 (a5, a3))) 191 (by kernel_rfl) (by kernel_rfl) (by kernel_rfl) (by kernel_rfl)) ?_)
  refine EL.quick 1 [4, 5, 191, 192] [(4, pt a1 0), (5, pt a2 0), (191, ag (cellsS58 a0 (a5, a3))), (192, pt a4 1)] (by kernel_rfl) ?_
  refine EL.of (EO.Y (YO.loadBox hS 0 rfl 21 1 1 (ib a8) 193 (by kernel_rfl) (by kernel_rfl) (by kernel_rfl) (by kernel_rfl)) ?_)
  refine EL.quick 1 [4, 5, 191, 194] [(4, pt a1 0), (5, pt a2 0), (191, ag (cellsS58 a0 (a5, a3))), (194, ia (IntKind.i64.wrap a8))] (by kernel_rfl) ?_
  have hS : St B _ (Ass.box 32 a4 [ia a7, ib a8] :: Ass.box 63 a2 (encS63 zS63) :: Ass.box 58 a1 (cellsS58 zS58 (none, 0)) :: Ass.box 58 a6 (cellsS58 a0 (a5, a3)) :: os) (Ro.sl (Kd.int .i32) a5 a3 a0.f3 :: Ro.sl (Kd.slice kS32) b7 b8 b6 :: rs) := hS.re [] [] rfl (sub_cons 0 rfl (sub_tail (sub_self)))
  obtain ⟨n8, g2, E7, H⟩ := b2_out H
  have hq := confidantref9_failed.calls E7 hS
  refine EL.of (EO.callD 53 [ag (cellsS58 a0 (a5, a3)), ia (IntKind.i64.wrap a8)] _ 195 (by kernel_rfl) (by kernel_rfl) (by kernel_rfl) hq ?_)
  rintro v w ⟨i7, m2, rfl, hS⟩
  refine EL.quick 2 [4, 5, 196, 197] [(4, pt a1 0), (5, pt a2 0), (196, ag (cellsS58 g2 (i7, m2))), (197, ag (encS63 n8))] (by kernel_rfl) ?_
  refine EL.of (EO.storeBox (os' := Ass.box 32 a4 [ia a7, ib a8] :: Ass.box 63 a2 (encS63 zS63) :: Ass.box 58 a1 (cellsS58 g2 (i7, m2)) :: Ass.box 58 a6 (cellsS58 a0 (a5, a3)) :: os) hS 2 rfl 58 0 (ag (cellsS58 g2 (i7, m2))) (cellsS58 g2 (i7, m2)) (by kernel_rfl) (by kernel_rfl) (by kernel_rfl) (by kernel_rfl) (by kernel_rfl) (by kernel_rfl) rfl rfl ?_)
  intro w hS
  refine EL.of (EO.storeBox (os' := Ass.box 32 a4 [ia a7, ib a8] :: Ass.box 63 a2 (encS63 n8) :: Ass.box 58 a1 (cellsS58 g2 (i7, m2)) :: Ass.box 58 a6 (cellsS58 a0 (a5, a3)) :: os) hS 1 rfl 63 0 (ag (encS63 n8)) (encS63 n8) (by kernel_rfl) (by kernel_rfl) (by kernel_rfl) (by kernel_rfl) (by kernel_rfl) (by kernel_rfl) rfl rfl ?_)
  intro w hS
  refine EL.done (by kernel_rfl) ?_
  refine EQ.code ?_
  refine EW.ret (by kernel_rfl) ?_
  refine EQ.ret ?_
  refine EQ.ret ?_
  simp only [cellsS58, encS63, Option.some.injEq, Prod.mk.injEq] at H
  obtain ⟨rfl, rfl⟩ := H
  exact EQ.leave2 hS (.cell 4 58) (.cell 5 63) (ag (cellsS58 g2 (i7, m2))) (ag (encS63 n8)) (by kernel_rfl) ⟨2, 58, a1, (cellsS58 g2 (i7, m2)), 0, 12, rfl, (by kernel_rfl), (by kernel_rfl)⟩ ⟨1, 63, a2, (encS63 n8), 0, 3, rfl, (by kernel_rfl), (by kernel_rfl)⟩ ⟨_, rfl, i7, m2, rfl, (hS.re [] [0, 0, 0, 0] rfl (sub_cons 0 rfl (sub_tail (sub_self))))⟩
 rw [if_neg A9] at H
 refine EW.skip (by kernel_rfl) ?_
 refine EQ.pop ?_
 refine EQ.code ?_
 refine EW.sq (by kernel_rfl) ?_
 refine EW.rg (by kernel_rfl) ?_
 refine EL.quick 1 [2, 4, 5, 11, 12, 199] [(2, pt a6 0), (4, pt a1 0), (5, pt a2 0), (11, ib a9), (12, ib c3), (199, pt a4 0)] (by kernel_rfl) ?_
 refine EL.of (EO.Y (YO.loadBox hS 0 rfl 3 0 1 (ia a7) 200 (by kernel_rfl) (by kernel_rfl) (by kernel_rfl) (by kernel_rfl)) ?_)
 refine EL.quick 2 [2, 4, 5, 200, 201, 202] [(2, pt a6 0), (4, pt a1 0), (5, pt a2 0), (200, ia a7), (201, ib c3), (202, ib a9)] (by kernel_rfl) ?_
 obtain ⟨n9, t0, E8, H⟩ := b2_out H
 have hq := confidantref9_two.calls E8 hS
 refine EL.of (EO.callD 57 [ia a7, ib c3, ib a9] _ 203 (by kernel_rfl) (by kernel_rfl) (by kernel_rfl) hq ?_)
 rintro v w ⟨rfl, hS⟩
 refine EL.quick 5 [2, 4, 5, 17, 18] [(2, pt a6 0), (4, pt a1 0), (5, pt a2 0), (17, ib n9), (18, .bool (t0))] (by kernel_rfl) ?_
 refine EL.done (by kernel_rfl) ?_
 refine EQ.code ?_
 refine EW.sq (by kernel_rfl) ?_
 refine EW.sq (by kernel_rfl) ?_
 refine EW.rg (by kernel_rfl) ?_
 refine EL.quick 2 [2, 4, 5, 17, 207] [(2, pt a6 0), (4, pt a1 0), (5, pt a2 0), (17, ib n9), (207, .bool (!(t0)))] (by kernel_rfl) ?_
 refine EL.done (by kernel_rfl) ?_
 refine EQ.code ?_
 refine EW.cdQ (b := !(t0)) (t0 = true) (false) (by kernel_rfl) (by kernel_rfl) ⟨fun h => (by rw [h] <;> rfl), fun h => (by rw [Bool.eq_false_iff.2 h] <;> rfl)⟩ (fun B0 => ?_) (fun B0 => ?_)
 ·rw [if_pos B0] at H
  refine EW.skip (by kernel_rfl) ?_
  refine EQ.code ?_
  refine EW.sq (by kernel_rfl) ?_
  refine EW.rg (by kernel_rfl) ?_
  refine EL.of (EO.Y (YO.loadBox hS 3 rfl 58 0 12 (ag (cellsS58 a0 (a5, a3))) 212 (by kernel_rfl) (by kernel_rfl) (by kernel_rfl) (by kernel_rfl)) ?_)
  refine EL.quick 1 [4, 5, 212, 213] [(4, pt a1 0), (5, pt a2 0), (212, ag (cellsS58 a0 (a5, a3))), (213, ib n9)] (by kernel_rfl) ?_
  obtain ⟨u5, D0, H⟩ := lt_out H
  refine EL.of (EO.lit hS (Kd.int .i32) 21 54 1 #[(0, ib n9)] [ib n9] u5 214 (by kernel_rfl) (by kernel_rfl) (by kernel_rfl) (fun _ => (by kernel_rfl)) (by rw [D0]; rfl) (by kernel_rfl) (fun w G hr => (by rw [D0]; exact ⟨[ib n9], [], rfl, rfl, rfl⟩)) ?_)
  intro C2 w hS
  have hS := St.fr hS 0 rfl
  have hS : St B _ (Ass.box 32 a4 [ia a7, ib a8] :: Ass.box 63 a2 (encS63 zS63) :: Ass.box 58 a1 (cellsS58 zS58 (none, 0)) :: Ass.box 58 a6 (cellsS58 a0 (a5, a3)) :: os) (Ro.sl (Kd.int .i32) a5 a3 a0.f3 :: Ro.sl (Kd.int .i32) (some ⟨C2, 0, none⟩) 1 u5 :: Ro.sl (Kd.slice kS32) b7 b8 b6 :: rs) := hS.re [] [] rfl (sub_cons 1 rfl (sub_cons 0 rfl (sub_tail (sub_tail (sub_self)))))
  obtain ⟨o0, g3, E9, H⟩ := b2_out H
  have hq := confidantref9_went.calls E9 hS
  refine EL.of (EO.callD 56 [ag (cellsS58 a0 (a5, a3)), ia 2, sv (some ⟨C2, 0, none⟩) 1 u5] _ 215 (by kernel_rfl) (by kernel_rfl) (by kernel_rfl) hq ?_)
  rintro v w ⟨i8, m3, rfl, hS⟩
  refine EL.quick 2 [4, 5, 216, 217] [(4, pt a1 0), (5, pt a2 0), (216, ag (cellsS58 g3 (i8, m3))), (217, ag (encS63 o0))] (by kernel_rfl) ?_
  refine EL.of (EO.storeBox (os' := Ass.box 32 a4 [ia a7, ib a8] :: Ass.box 63 a2 (encS63 zS63) :: Ass.box 58 a1 (cellsS58 g3 (i8, m3)) :: Ass.box 58 a6 (cellsS58 a0 (a5, a3)) :: os) hS 2 rfl 58 0 (ag (cellsS58 g3 (i8, m3))) (cellsS58 g3 (i8, m3)) (by kernel_rfl) (by kernel_rfl) (by kernel_rfl) (by kernel_rfl) (by kernel_rfl) (by kernel_rfl) rfl rfl ?_)
  intro w hS
  refine EL.of (EO.storeBox (os' := Ass.box 32 a4 [ia a7, ib a8] :: Ass.box 63 a2 (encS63 o0) :: Ass.box 58 a1 (cellsS58 g3 (i8, m3)) :: Ass.box 58 a6 (cellsS58 a0 (a5, a3)) :: os) hS 1 rfl 63 0 (ag (encS63 o0)) (encS63 o0) (by kernel_rfl) (by kernel_rfl) (by kernel_rfl) (by kernel_rfl) (by kernel_rfl) (by kernel_rfl) rfl rfl ?_)
  intro w hS
  refine EL.done (by kernel_rfl) ?_
  refine EQ.code ?_
  refine EW.ret (by kernel_rfl) ?_
  simp only [cellsS58, encS63, Option.some.injEq, Prod.mk.injEq] at H
  obtain ⟨rfl, rfl⟩ := H
  exact EQ.leave2 hS (.cell 4 58) (.cell 5 63) (ag (cellsS58 g3 (i8, m3))) (ag (encS63 o0)) (by kernel_rfl) ⟨2, 58, a1, (cellsS58 g3 (i8, m3)), 0, 12, rfl, (by kernel_rfl), (by kernel_rfl)⟩ ⟨1, 63, a2, (encS63 o0), 0, 3, rfl, (by kernel_rfl), (by kernel_rfl)⟩ ⟨_, rfl, i8, m3, rfl, (hS.re [] [0, 0, 0, 0] rfl (sub_cons 0 rfl (sub_cons 1 rfl (sub_cons 3 rfl (sub_tail (sub_tail (sub_tail (sub_tail (sub_self)))))))))⟩
 rw [if_neg B0] at H
 refine EW.sq (by kernel_rfl) ?_
 refine EW.rg (by kernel_rfl) ?_
 refine EL.of (EO.Y (YO.loadBox hS 3 rfl 58 0 12 (ag (cellsS58 a0 (a5, a3))) 208 (by kernel_rfl) (by kernel_rfl) (by kernel_rfl) (by kernel_rfl)) ?_)
 have hS : St B _ (Ass.box 32 a4 [ia a7, ib a8] :: Ass.box 63 a2 (encS63 zS63) :: Ass.box 58 a1 (cellsS58 zS58 (none, 0)) :: Ass.box 58 a6 (cellsS58 a0 (a5, a3)) :: os) (Ro.sl (Kd.int .i32) a5 a3 a0.f3 :: Ro.sl (Kd.slice kS32) b7 b8 b6 :: rs) := hS.re [] [] rfl (sub_cons 0 rfl (sub_tail (sub_self)))
 obtain ⟨o1, g4, F0, H⟩ := b2_out H
 have hq := confidantref9_failed.calls F0 hS
 refine EL.of (EO.callD 53 [ag (cellsS58 a0 (a5, a3)), ia 32] _ 209 (by kernel_rfl) (by kernel_rfl) (by kernel_rfl) hq ?_)
 rintro v w ⟨i9, m4, rfl, hS⟩
 refine EL.quick 2 [4, 5, 210, 211] [(4, pt a1 0), (5, pt a2 0), (210, ag (cellsS58 g4 (i9, m4))), (211, ag (encS63 o1))] (by kernel_rfl) ?_
 refine EL.of (EO.storeBox (os' := Ass.box 32 a4 [ia a7, ib a8] :: Ass.box 63 a2 (encS63 zS63) :: Ass.box 58 a1 (cellsS58 g4 (i9, m4)) :: Ass.box 58 a6 (cellsS58 a0 (a5, a3)) :: os) hS 2 rfl 58 0 (ag (cellsS58 g4 (i9, m4))) (cellsS58 g4 (i9, m4)) (by kernel_rfl) (by kernel_rfl) (by kernel_rfl) (by kernel_rfl) (by kernel_rfl) (by kernel_rfl) rfl rfl ?_)
 intro w hS
 refine EL.of (EO.storeBox (os' := Ass.box 32 a4 [ia a7, ib a8] :: Ass.box 63 a2 (encS63 o1) :: Ass.box 58 a1 (cellsS58 g4 (i9, m4)) :: Ass.box 58 a6 (cellsS58 a0 (a5, a3)) :: os) hS 1 rfl 63 0 (ag (encS63 o1)) (encS63 o1) (by kernel_rfl) (by kernel_rfl) (by kernel_rfl) (by kernel_rfl) (by kernel_rfl) (by kernel_rfl) rfl rfl ?_)
 intro w hS
 refine EL.done (by kernel_rfl) ?_
 refine EQ.code ?_
 refine EW.ret (by kernel_rfl) ?_
 refine EQ.ret ?_
 simp only [cellsS58, encS63, Option.some.injEq, Prod.mk.injEq] at H
 obtain ⟨rfl, rfl⟩ := H
 exact EQ.leave2 hS (.cell 4 58) (.cell 5 63) (ag (cellsS58 g4 (i9, m4))) (ag (encS63 o1)) (by kernel_rfl) ⟨2, 58, a1, (cellsS58 g4 (i9, m4)), 0, 12, rfl, (by kernel_rfl), (by kernel_rfl)⟩ ⟨1, 63, a2, (encS63 o1), 0, 3, rfl, (by kernel_rfl), (by kernel_rfl)⟩ ⟨_, rfl, i9, m4, rfl, (hS.re [] [0, 0, 0, 0] rfl (sub_cons 0 rfl (sub_tail (sub_self))))⟩

/-! ### confidant/confidantref9.SameInts: function 39 -/
def confidantref9_SameInts_56.l0 (K : Nat) (a0 : List Int) (a1 : List Int) : Nat → Int → Option Bool
 | 0, _ => none
 | n + 1, a2 => if a2 < (a0.length : Int) then (if 0 ≤ a2 then (if a2 < (a1.length : Int) then (if (a0.getD a2.toNat 0) = (a1.getD a2.toNat 0) then (confidantref9_SameInts_56.l0 K a0 a1 n (IntKind.i64.wrap (a2 + 1))) else (some false)) else none) else none) else (some true)
def confidantref9_SameInts_56.f (K : Nat) (a0 : List Int) (a1 : List Int) : Option Bool := if (a0.length : Int) = (a1.length : Int) then (confidantref9_SameInts_56.l0 K a0 a1 K 0) else (some false)
set_option maxRecDepth 100000 in
theorem confidantref9_SameInts_56.calls {K : Nat} {a0 : List Int} {a1 : List Int} {a5 : Option Addr} {a3 : Nat} {a6 : Option Addr} {a4 : Nat} {b4 : Bool} {B w : World} {os : List Ass} {rs : List Ro} (H : confidantref9_SameInts_56.f K a0 a1 = some b4) (hS : St B w (os) (Ro.sl (Kd.int .i32) a5 a3 a0 :: Ro.sl (Kd.int .i32) a6 a4 a1 :: rs)) :
  Calls Try.prog 39 [sv a5 a3 a0, sv a6 a4 a1].toArray w (fun en w' => ∃ v, en = .returned v ∧ v = .bool (b4) ∧ St B w' (os) (Ro.sl (Kd.int .i32) a5 a3 a0 :: Ro.sl (Kd.int .i32) a6 a4 a1 :: rs)) := by
 unfold confidantref9_SameInts_56.f at H
 refine calls_of_EW (args := [sv a5 a3 a0, sv a6 a4 a1]) (c := Cd39) 26 Try.func39 (by kernel_rfl) (by kernel_rfl) (by kernel_rfl) ?_
 refine EW.sq (by kernel_rfl) ?_
 refine EW.rg (by kernel_rfl) ?_
 refine EL.quick 1 [0, 1] [(0, sv a5 a3 a0), (1, sv a6 a4 a1)] (by kernel_rfl) ?_
 refine EL.done (by kernel_rfl) ?_
 refine EQ.code ?_
 refine EW.sq (by kernel_rfl) ?_
 refine EW.sq (by kernel_rfl) ?_
 refine EW.rg (by kernel_rfl) ?_
 refine EL.quick 5 [0, 1, 10] [(0, sv a5 a3 a0), (1, sv a6 a4 a1), (10, .bool (!(decide ((a0.length : Int) = (a1.length : Int)))))] (by kernel_rfl) ?_
 refine EL.done (by kernel_rfl) ?_
 refine EQ.code ?_
 refine EW.cdQ (b := !(decide ((a0.length : Int) = (a1.length : Int)))) ((a0.length : Int) = (a1.length : Int)) (false) (by kernel_rfl) (by kernel_rfl) ⟨fun h => (by rw [decide_eq_true h] <;> rfl), fun h => (by rw [decide_eq_false h] <;> rfl)⟩ (fun b1 => ?_) (fun b1 => ?_)
 ·rw [if_pos b1] at H
  refine EW.skip (by kernel_rfl) ?_
  refine EQ.code ?_
  refine EW.sq (by kernel_rfl) ?_
  refine EW.sq (by kernel_rfl) ?_
  refine EW.rg (by kernel_rfl) ?_
  refine EL.quick 1 [0, 1, 5] [(0, sv a5 a3 a0), (1, sv a6 a4 a1), (5, ia 0)] (by kernel_rfl) ?_
  refine EL.done (by kernel_rfl) ?_
  refine EQ.code ?_
  refine EW.bl 0 (by kernel_rfl) ?_
  refine EW.lp (fun n a w => ∃ a2 : Int, Sat 26 [(0, sv a5 a3 a0), (1, sv a6 a4 a1), (5, ia a2)] a ∧ St B w (os) (Ro.sl (Kd.int .i32) a5 a3 a0 :: Ro.sl (Kd.int .i32) a6 a4 a1 :: rs) ∧ confidantref9_SameInts_56.l0 K a0 a1 n a2 = some b4) K (by kernel_rfl) ?_ (fun n a w hI => ?_)
  ·refine EQ.keep [0, 1, 5] [(0, sv a5 a3 a0), (1, sv a6 a4 a1), (5, ia 0)] (by kernel_rfl) ?_
   exact fun a ha => ⟨0, ha, (hS.re [] [] rfl (sub_cons 0 rfl (sub_cons 1 rfl (sub_tail (sub_tail (sub_self)))))), H⟩
  obtain ⟨a2, ha, hS, H⟩ := hI
  obtain _ | n := n
  ·simp [confidantref9_SameInts_56.l0] at H
  rw [confidantref9_SameInts_56.l0.eq_2] at H
  refine EW.at ?_ a ha
  clear ha a
  refine EW.sq (by kernel_rfl) ?_
  refine EW.sq (by kernel_rfl) ?_
  refine EW.rg (by kernel_rfl) ?_
  refine EL.quick 4 [0, 1, 5, 14] [(0, sv a5 a3 a0), (1, sv a6 a4 a1), (5, ia a2), (14, .bool (decide (a2 < (a0.length : Int))))] (by kernel_rfl) ?_
  refine EL.done (by kernel_rfl) ?_
  refine EQ.code ?_
  refine EW.cdP (a2 < (a0.length : Int)) (by kernel_rfl) (by kernel_rfl) (fun a9 => ?_) (fun a9 => ?_)
  ·rw [if_pos a9] at H
   refine EW.skip (by kernel_rfl) ?_
   refine EQ.code ?_
   refine EW.sq (by kernel_rfl) ?_
   refine EW.bl 1 (by kernel_rfl) ?_
   refine EW.sq (by kernel_rfl) ?_
   obtain ⟨b0, H⟩ := ite_in H
   obtain ⟨a7, rfl⟩ := St.rd_some hS (Rd.ro 0 rfl) b0 a9
   obtain ⟨b2, H⟩ := ite_in H
   obtain ⟨a8, rfl⟩ := St.rd_some hS (Rd.ro 1 rfl) b0 b2
   have hS := hS.drew
   refine EW.dr (B := B) [] [Ro.sl (Kd.int .i32) (some a7) a3 a0, Ro.sl (Kd.int .i32) (some a8) a4 a1] (by kernel_rfl) (by kernel_rfl) ?_
   have hN : Region.noSelect Cd39.r.r.l.r.l.l.r.l.l.l.ops = true := (by kernel_rfl)
   have hF : freeAll Cd39.r.r.l.r.l.l.r.l.l.l.ops = true := (by kernel_rfl)
   have hC : Core B [] [Ro.sl (Kd.int .i32) (some a7) a3 a0, Ro.sl (Kd.int .i32) (some a8) a4 a1] _ := ⟨_, _, hS⟩
   refine ED.quick hN hF hC [0, 1, 4, 5] [0, 1, 5, 17, 18, 21, 22] 5 [(0, sv (some a7) a3 a0), (1, sv (some a8) a4 a1), (5, ia a2), (17, sv (some a7) a3 a0), (18, ia a2), (21, sv (some a8) a4 a1), (22, ia a2)] (bm 9 51) (by kernel_rfl) (by kernel_rfl) ?_
   refine ED.Y hN hF hC 2 4 (bm 9 55) (by kernel_rfl) (by kernel_rfl) rfl (fun _ _ _ hS => YO.idx 54 1 a7 a0.length a3 .i64 a2 19 (by kernel_rfl) (by kernel_rfl) (by kernel_rfl) (by kernel_rfl) b0 a9) ?_
   refine ED.Y hN hF hC 3 3 (bm 9 63) (by kernel_rfl) (by kernel_rfl) rfl (fun _ _ _ hS => YO.loadEl hS (Kd.int .i32) a7 a3 a0 (Rd.ro 0 rfl) 0 (encI .i32) encI_of a2 b0 a9 21 1 0 1 rfl (ib (a0.getD a2.toNat 0)) 20 (by kernel_rfl) (by kernel_rfl) (by kernel_rfl) (by kernel_rfl)) ?_
   refine ED.Y hN hF hC 6 2 (bm 9 127) (by kernel_rfl) (by kernel_rfl) rfl (fun _ _ _ hS => YO.idx 54 1 a8 a1.length a4 .i64 a2 23 (by kernel_rfl) (by kernel_rfl) (by kernel_rfl) (by kernel_rfl) b0 b2) ?_
   refine ED.Y hN hF hC 7 1 (bm 9 255) (by kernel_rfl) (by kernel_rfl) rfl (fun _ _ _ hS => YO.loadEl hS (Kd.int .i32) a8 a4 a1 (Rd.ro 1 rfl) 0 (encI .i32) encI_of a2 b0 b2 21 1 0 1 rfl (ib (a1.getD a2.toNat 0)) 24 (by kernel_rfl) (by kernel_rfl) (by kernel_rfl) (by kernel_rfl)) ?_
   refine ED.quick hN hF hC [8] [0, 1, 5, 25] 0 [(0, sv (some a7) a3 a0), (1, sv (some a8) a4 a1), (5, ia a2), (25, .bool (!(decide ((a0.getD a2.toNat 0) = (a1.getD a2.toNat 0)))))] (bm 9 511) (by kernel_rfl) (by kernel_rfl) ?_
   refine ED.done (by kernel_rfl) ?_
   refine EQ.code ?_
   refine EW.cdQ (b := !(decide ((a0.getD a2.toNat 0) = (a1.getD a2.toNat 0)))) ((a0.getD a2.toNat 0) = (a1.getD a2.toNat 0)) (false) (by kernel_rfl) (by kernel_rfl) ⟨fun h => (by rw [decide_eq_true h] <;> rfl), fun h => (by rw [decide_eq_false h] <;> rfl)⟩ (fun b3 => ?_) (fun b3 => ?_)
   ·rw [if_pos b3] at H
    refine EW.skip (by kernel_rfl) ?_
    refine EQ.pop ?_
    refine EQ.code ?_
    refine EW.rg (by kernel_rfl) ?_
    refine EL.quick 3 [0, 1, 5] [(0, sv (some a7) a3 a0), (1, sv (some a8) a4 a1), (5, ia (IntKind.i64.wrap (a2 + 1)))] (by kernel_rfl) ?_
    refine EL.done (by kernel_rfl) ?_
    refine EQ.to ?_
    refine EQ.keep [0, 1, 5] [(0, sv (some a7) a3 a0), (1, sv (some a8) a4 a1), (5, ia (IntKind.i64.wrap (a2 + 1)))] (by kernel_rfl) ?_
    exact fun a ha => ⟨n, Nat.lt_succ_self n, IntKind.i64.wrap (a2 + 1), ha, (hS.re [] [] rfl (sub_cons 0 rfl (sub_cons 1 rfl (sub_tail (sub_tail (sub_self)))))), H⟩
   rw [if_neg b3] at H
   refine EW.sq (by kernel_rfl) ?_
   refine EW.rg (by kernel_rfl) ?_
   refine EL.quick 1 [4] [(4, .bool (false))] (by kernel_rfl) ?_
   refine EL.done (by kernel_rfl) ?_
   refine EQ.code ?_
   refine EW.ret (by kernel_rfl) ?_
   refine EQ.ret ?_
   refine EQ.ret ?_
   refine EQ.ret ?_
   refine EQ.ret ?_
   refine EQ.ret ?_
   obtain rfl := Option.some.inj H
   exact EQ.leave (.bool (false)) (by kernel_rfl) ⟨_, rfl, rfl, (hS.re [] [] rfl (sub_self))⟩
  rw [if_neg a9] at H
  refine EW.exit (id := 0) (by kernel_rfl) ?_
  refine EQ.exitCode ?_
  refine EQ.exitTo ?_
  refine EQ.exitHere ?_
  refine EQ.code ?_
  refine EW.sq (by kernel_rfl) ?_
  refine EW.rg (by kernel_rfl) ?_
  refine EL.quick 1 [4] [(4, .bool (true))] (by kernel_rfl) ?_
  refine EL.done (by kernel_rfl) ?_
  refine EQ.code ?_
  refine EW.ret (by kernel_rfl) ?_
  obtain rfl := Option.some.inj H
  exact EQ.leave (.bool (true)) (by kernel_rfl) ⟨_, rfl, rfl, (hS.re [] [] rfl (sub_self))⟩
 rw [if_neg b1] at H
 refine EW.sq (by kernel_rfl) ?_
 refine EW.rg (by kernel_rfl) ?_
 refine EL.quick 1 [4] [(4, .bool (false))] (by kernel_rfl) ?_
 refine EL.done (by kernel_rfl) ?_
 refine EQ.code ?_
 refine EW.ret (by kernel_rfl) ?_
 refine EQ.ret ?_
 obtain rfl := Option.some.inj H
 exact EQ.leave (.bool (false)) (by kernel_rfl) ⟨_, rfl, rfl, (hS.re [] [] rfl (sub_self))⟩

/-! ### confidant/confidantref9.Same: function 30 -/
def confidantref9_Same.f (K : Nat) (a0 : S58) (a1 : S58) : Option Bool := if a0.f0 = a1.f0 then (if a0.f1 = a1.f1 then (if a0.f2 = a1.f2 then (b1 (confidantref9_SameInts_56.f K a0.f3 a1.f3) fun (a8 : Bool) => (if a8 = true then (if ((a0.f4.f0 == a1.f4.f0) && ((a0.f4.f1 == a1.f4.f1) && ((a0.f4.f2 == a1.f4.f2) && ((a0.f4.f3 == a1.f4.f3) && true)))) = true then (if a0.f5 = a1.f5 then (if a0.f6 = a1.f6 then (if a0.f7 = a1.f7 then (some (decide (a0.f8 = a1.f8))) else (some false)) else (some false)) else (some false)) else (some false)) else (some false))) else (some false)) else (some false)) else (some false)
set_option maxRecDepth 100000 in
theorem confidantref9_Same.calls {K : Nat} {a0 : S58} {a1 : S58} {a4 : Option Addr} {a5 : Nat} {a6 : Option Addr} {a7 : Nat} {b8 : Bool} {B w : World} {os : List Ass} {rs : List Ro} (H : confidantref9_Same.f K a0 a1 = some b8) (hS : St B w (os) (Ro.sl (Kd.int .i32) a4 a5 a0.f3 :: Ro.sl (Kd.int .i32) a6 a7 a1.f3 :: rs)) :
  Calls Try.prog 30 [ag (cellsS58 a0 (a4, a5)), ag (cellsS58 a1 (a6, a7))].toArray w (fun en w' => ∃ v, en = .returned v ∧ v = .bool (b8) ∧ St B w' (os) (Ro.sl (Kd.int .i32) a4 a5 a0.f3 :: Ro.sl (Kd.int .i32) a6 a7 a1.f3 :: rs)) := by
 unfold confidantref9_Same.f at H
 refine calls_of_EW (args := [ag (cellsS58 a0 (a4, a5)), ag (cellsS58 a1 (a6, a7))]) (c := Cd30) 66 Try.func30 (by kernel_rfl) (by kernel_rfl) (by kernel_rfl) ?_
 refine EW.sq (by kernel_rfl) ?_
 refine EW.rg (by kernel_rfl) ?_
 refine EL.of (EO.box hS 58 (ag (cellsS58 a0 (a4, a5))) (cellsS58 a0 (a4, a5)) 2 (by kernel_rfl) (by kernel_rfl) (by kernel_rfl) (by first | rfl | kernel_rfl) ?_)
 intro a3 w hS
 refine EL.of (EO.box hS 58 (ag (cellsS58 a1 (a6, a7))) (cellsS58 a1 (a6, a7)) 3 (by kernel_rfl) (by kernel_rfl) (by kernel_rfl) (by first | rfl | kernel_rfl) ?_)
 intro a2 w hS
 refine EL.quick 1 [2, 3] [(2, pt a3 0), (3, pt a2 0)] (by kernel_rfl) ?_
 refine EL.done (by kernel_rfl) ?_
 refine EQ.code ?_
 refine EW.sq (by kernel_rfl) ?_
 refine EW.rg (by kernel_rfl) ?_
 refine EL.quick 1 [2, 3, 5] [(2, pt a3 0), (3, pt a2 0), (5, pt a3 0)] (by kernel_rfl) ?_
 refine EL.of (EO.Y (YO.loadBox hS 1 rfl 21 0 1 (ib a0.f0) 6 (by kernel_rfl) (by kernel_rfl) (by kernel_rfl) (by kernel_rfl)) ?_)
 refine EL.quick 1 [2, 3, 6, 7] [(2, pt a3 0), (3, pt a2 0), (6, ib a0.f0), (7, pt a2 0)] (by kernel_rfl) ?_
 refine EL.of (EO.Y (YO.loadBox hS 0 rfl 21 0 1 (ib a1.f0) 8 (by kernel_rfl) (by kernel_rfl) (by kernel_rfl) (by kernel_rfl)) ?_)
 refine EL.quick 2 [2, 3, 10] [(2, pt a3 0), (3, pt a2 0), (10, .bool (decide (a0.f0 = a1.f0)))] (by kernel_rfl) ?_
 by_cases a9 : a0.f0 = a1.f0
 ·rw [if_pos a9] at H
  refine EL.keep [2, 3, 10] [(2, pt a3 0), (3, pt a2 0), (10, .bool (decide (a0.f0 = a1.f0)))] (by kernel_rfl) ?_
  refine EL.as' [(2, pt a3 0), (3, pt a2 0), (10, .bool (true))] (by simp only [cellsS58, dec_t a9, Bool.not_true, Bool.not_false]) ?_
  refine EL.quick 1 [2, 3, 10, 11] [(2, pt a3 0), (3, pt a2 0), (10, .bool (true)), (11, pt a3 1)] (by kernel_rfl) ?_
  refine EL.of (EO.Y (YO.loadBox hS 1 rfl 3 1 1 (ia a0.f1) 12 (by kernel_rfl) (by kernel_rfl) (by kernel_rfl) (by kernel_rfl)) ?_)
  refine EL.quick 1 [2, 3, 10, 12, 13] [(2, pt a3 0), (3, pt a2 0), (10, .bool (true)), (12, ia a0.f1), (13, pt a2 1)] (by kernel_rfl) ?_
  refine EL.of (EO.Y (YO.loadBox hS 0 rfl 3 1 1 (ia a1.f1) 14 (by kernel_rfl) (by kernel_rfl) (by kernel_rfl) (by kernel_rfl)) ?_)
  refine EL.quick 3 [2, 3, 17] [(2, pt a3 0), (3, pt a2 0), (17, .bool (decide (a0.f1 = a1.f1)))] (by kernel_rfl) ?_
  by_cases b0 : a0.f1 = a1.f1
  ·rw [if_pos b0] at H
   refine EL.keep [2, 3, 17] [(2, pt a3 0), (3, pt a2 0), (17, .bool (decide (a0.f1 = a1.f1)))] (by kernel_rfl) ?_
   refine EL.as' [(2, pt a3 0), (3, pt a2 0), (17, .bool (true))] (by simp only [cellsS58, dec_t b0, Bool.not_true, Bool.not_false]) ?_
   refine EL.quick 1 [2, 3, 17, 18] [(2, pt a3 0), (3, pt a2 0), (17, .bool (true)), (18, pt a3 2)] (by kernel_rfl) ?_
   refine EL.of (EO.Y (YO.loadBox hS 1 rfl 3 2 1 (ia a0.f2) 19 (by kernel_rfl) (by kernel_rfl) (by kernel_rfl) (by kernel_rfl)) ?_)
   refine EL.quick 1 [2, 3, 17, 19, 20] [(2, pt a3 0), (3, pt a2 0), (17, .bool (true)), (19, ia a0.f2), (20, pt a2 2)] (by kernel_rfl) ?_
   refine EL.of (EO.Y (YO.loadBox hS 0 rfl 3 2 1 (ia a1.f2) 21 (by kernel_rfl) (by kernel_rfl) (by kernel_rfl) (by kernel_rfl)) ?_)
   refine EL.quick 3 [2, 3, 24] [(2, pt a3 0), (3, pt a2 0), (24, .bool (decide (a0.f2 = a1.f2)))] (by kernel_rfl) ?_
   by_cases b2 : a0.f2 = a1.f2
   ·rw [if_pos b2] at H
    refine EL.keep [2, 3, 24] [(2, pt a3 0), (3, pt a2 0), (24, .bool (decide (a0.f2 = a1.f2)))] (by kernel_rfl) ?_
    refine EL.as' [(2, pt a3 0), (3, pt a2 0), (24, .bool (true))] (by simp only [cellsS58, dec_t b2, Bool.not_true, Bool.not_false]) ?_
    refine EL.quick 1 [2, 3, 24, 25] [(2, pt a3 0), (3, pt a2 0), (24, .bool (true)), (25, pt a3 3)] (by kernel_rfl) ?_
    refine EL.of (EO.Y (YO.loadBox hS 1 rfl 54 3 1 (sv a4 a5 a0.f3) 26 (by kernel_rfl) (by kernel_rfl) (by kernel_rfl) (by kernel_rfl)) ?_)
    refine EL.quick 1 [2, 3, 24, 26, 27] [(2, pt a3 0), (3, pt a2 0), (24, .bool (true)), (26, sv a4 a5 a0.f3), (27, pt a2 3)] (by kernel_rfl) ?_
    refine EL.of (EO.Y (YO.loadBox hS 0 rfl 54 3 1 (sv a6 a7 a1.f3) 28 (by kernel_rfl) (by kernel_rfl) (by kernel_rfl) (by kernel_rfl)) ?_)
    have hS : St B _ (Ass.box 58 a2 (cellsS58 a1 (a6, a7)) :: Ass.box 58 a3 (cellsS58 a0 (a4, a5)) :: os) (Ro.sl (Kd.int .i32) a4 a5 a0.f3 :: Ro.sl (Kd.int .i32) a6 a7 a1.f3 :: rs) := hS.re [] [] rfl (sub_cons 0 rfl (sub_cons 1 rfl (sub_tail (sub_tail (sub_self)))))
    obtain ⟨a8, b9, H⟩ := b1_out H
    have hq := confidantref9_SameInts_56.calls b9 hS
    refine EL.of (EO.callD 39 [sv a4 a5 a0.f3, sv a6 a7 a1.f3] _ 29 (by kernel_rfl) (by kernel_rfl) (by kernel_rfl) hq ?_)
    rintro v w ⟨rfl, hS⟩
    refine EL.quick 2 [2, 3, 31] [(2, pt a3 0), (3, pt a2 0), (31, .bool (a8))] (by kernel_rfl) ?_
    by_cases b3 : a8 = true
    ·rw [if_pos b3] at H
     refine EL.keep [2, 3, 31] [(2, pt a3 0), (3, pt a2 0), (31, .bool (a8))] (by kernel_rfl) ?_
     refine EL.as' [(2, pt a3 0), (3, pt a2 0), (31, .bool (true))] (by simp only [cellsS58, b3, Bool.not_true, Bool.not_false]) ?_
     refine EL.quick 1 [2, 3, 31, 32] [(2, pt a3 0), (3, pt a2 0), (31, .bool (true)), (32, pt a3 4)] (by kernel_rfl) ?_
     refine EL.of (EO.Y (YO.loadBox hS 1 rfl 55 4 4 (ag [ib a0.f4.f0, ib a0.f4.f1, ib a0.f4.f2, ib a0.f4.f3]) 33 (by kernel_rfl) (by kernel_rfl) (by kernel_rfl) (by kernel_rfl)) ?_)
     refine EL.quick 1 [2, 3, 31, 33, 34] [(2, pt a3 0), (3, pt a2 0), (31, .bool (true)), (33, ag [ib a0.f4.f0, ib a0.f4.f1, ib a0.f4.f2, ib a0.f4.f3]), (34, pt a2 4)] (by kernel_rfl) ?_
     refine EL.of (EO.Y (YO.loadBox hS 0 rfl 55 4 4 (ag [ib a1.f4.f0, ib a1.f4.f1, ib a1.f4.f2, ib a1.f4.f3]) 35 (by kernel_rfl) (by kernel_rfl) (by kernel_rfl) (by kernel_rfl)) ?_)
     refine EL.of (EO.Y (YO.eqAg .eql 55 (.tmp 33) (.tmp 35) #[ib a0.f4.f0, ib a0.f4.f1, ib a0.f4.f2, ib a0.f4.f3] #[ib a1.f4.f0, ib a1.f4.f1, ib a1.f4.f2, ib a1.f4.f3] ((a0.f4.f0 == a1.f4.f0) && ((a0.f4.f1 == a1.f4.f1) && ((a0.f4.f2 == a1.f4.f2) && ((a0.f4.f3 == a1.f4.f3) && true)))) (((a0.f4.f0 == a1.f4.f0) && ((a0.f4.f1 == a1.f4.f1) && ((a0.f4.f2 == a1.f4.f2) && ((a0.f4.f3 == a1.f4.f3) && true))))) 36 (by kernel_rfl) (by kernel_rfl) (by kernel_rfl) (by kernel_rfl) (by kernel_rfl) (.inl ⟨rfl, rfl⟩)) ?_)
     refine EL.quick 2 [2, 3, 38] [(2, pt a3 0), (3, pt a2 0), (38, .bool (((a0.f4.f0 == a1.f4.f0) && ((a0.f4.f1 == a1.f4.f1) && ((a0.f4.f2 == a1.f4.f2) && ((a0.f4.f3 == a1.f4.f3) && true))))))] (by kernel_rfl) ?_
     by_cases b4 : ((a0.f4.f0 == a1.f4.f0) && ((a0.f4.f1 == a1.f4.f1) && ((a0.f4.f2 == a1.f4.f2) && ((a0.f4.f3 == a1.f4.f3) && true)))) = true
     ·rw [if_pos b4] at H
      refine EL.keep [2, 3, 38] [(2, pt a3 0), (3, pt a2 0), (38, .bool (((a0.f4.f0 == a1.f4.f0) && ((a0.f4.f1 == a1.f4.f1) && ((a0.f4.f2 == a1.f4.f2) && ((a0.f4.f3 == a1.f4.f3) && true))))))] (by kernel_rfl) ?_
      refine EL.as' [(2, pt a3 0), (3, pt a2 0), (38, .bool (true))] (by simp only [cellsS58, b4, Bool.not_true, Bool.not_false]) ?_
      refine EL.quick 1 [2, 3, 38, 39] [(2, pt a3 0), (3, pt a2 0), (38, .bool (true)), (39, pt a3 8)] (by kernel_rfl) ?_
      refine EL.of (EO.Y (YO.loadBox hS 1 rfl 3 8 1 (ia a0.f5) 40 (by kernel_rfl) (by kernel_rfl) (by kernel_rfl) (by kernel_rfl)) ?_)
      refine EL.quick 1 [2, 3, 38, 40, 41] [(2, pt a3 0), (3, pt a2 0), (38, .bool (true)), (40, ia a0.f5), (41, pt a2 8)] (by kernel_rfl) ?_
      refine EL.of (EO.Y (YO.loadBox hS 0 rfl 3 8 1 (ia a1.f5) 42 (by kernel_rfl) (by kernel_rfl) (by kernel_rfl) (by kernel_rfl)) ?_)
      refine EL.quick 3 [2, 3, 45] [(2, pt a3 0), (3, pt a2 0), (45, .bool (decide (a0.f5 = a1.f5)))] (by kernel_rfl) ?_
      by_cases b5 : a0.f5 = a1.f5
      ·rw [if_pos b5] at H
       refine EL.keep [2, 3, 45] [(2, pt a3 0), (3, pt a2 0), (45, .bool (decide (a0.f5 = a1.f5)))] (by kernel_rfl) ?_
       refine EL.as' [(2, pt a3 0), (3, pt a2 0), (45, .bool (true))] (by simp only [cellsS58, dec_t b5, Bool.not_true, Bool.not_false]) ?_
       refine EL.quick 1 [2, 3, 45, 46] [(2, pt a3 0), (3, pt a2 0), (45, .bool (true)), (46, pt a3 9)] (by kernel_rfl) ?_
       refine EL.of (EO.Y (YO.loadBox hS 1 rfl 3 9 1 (ia a0.f6) 47 (by kernel_rfl) (by kernel_rfl) (by kernel_rfl) (by kernel_rfl)) ?_)
       refine EL.quick 1 [2, 3, 45, 47, 48] [(2, pt a3 0), (3, pt a2 0), (45, .bool (true)), (47, ia a0.f6), (48, pt a2 9)] (by kernel_rfl) ?_
       refine EL.of (EO.Y (YO.loadBox hS 0 rfl 3 9 1 (ia a1.f6) 49 (by kernel_rfl) (by kernel_rfl) (by kernel_rfl) (by kernel_rfl)) ?_)
       refine EL.quick 3 [2, 3, 52] [(2, pt a3 0), (3, pt a2 0), (52, .bool (decide (a0.f6 = a1.f6)))] (by kernel_rfl) ?_
       by_cases b6 : a0.f6 = a1.f6
       ·rw [if_pos b6] at H
        refine EL.keep [2, 3, 52] [(2, pt a3 0), (3, pt a2 0), (52, .bool (decide (a0.f6 = a1.f6)))] (by kernel_rfl) ?_
        refine EL.as' [(2, pt a3 0), (3, pt a2 0), (52, .bool (true))] (by simp only [cellsS58, dec_t b6, Bool.not_true, Bool.not_false]) ?_
        refine EL.quick 1 [2, 3, 52, 53] [(2, pt a3 0), (3, pt a2 0), (52, .bool (true)), (53, pt a3 10)] (by kernel_rfl) ?_
        refine EL.of (EO.Y (YO.loadBox hS 1 rfl 56 10 1 (ie a0.f7) 54 (by kernel_rfl) (by kernel_rfl) (by kernel_rfl) (by kernel_rfl)) ?_)
        refine EL.quick 1 [2, 3, 52, 54, 55] [(2, pt a3 0), (3, pt a2 0), (52, .bool (true)), (54, ie a0.f7), (55, pt a2 10)] (by kernel_rfl) ?_
        refine EL.of (EO.Y (YO.loadBox hS 0 rfl 56 10 1 (ie a1.f7) 56 (by kernel_rfl) (by kernel_rfl) (by kernel_rfl) (by kernel_rfl)) ?_)
        refine EL.quick 3 [2, 3, 59] [(2, pt a3 0), (3, pt a2 0), (59, .bool (decide (a0.f7 = a1.f7)))] (by kernel_rfl) ?_
        by_cases b7 : a0.f7 = a1.f7
        ·rw [if_pos b7] at H
         refine EL.keep [2, 3, 59] [(2, pt a3 0), (3, pt a2 0), (59, .bool (decide (a0.f7 = a1.f7)))] (by kernel_rfl) ?_
         refine EL.as' [(2, pt a3 0), (3, pt a2 0), (59, .bool (true))] (by simp only [cellsS58, dec_t b7, Bool.not_true, Bool.not_false]) ?_
         refine EL.quick 1 [3, 59, 60] [(3, pt a2 0), (59, .bool (true)), (60, pt a3 11)] (by kernel_rfl) ?_
         refine EL.of (EO.Y (YO.loadBox hS 1 rfl 3 11 1 (ia a0.f8) 61 (by kernel_rfl) (by kernel_rfl) (by kernel_rfl) (by kernel_rfl)) ?_)
         refine EL.quick 1 [59, 61, 62] [(59, .bool (true)), (61, ia a0.f8), (62, pt a2 11)] (by kernel_rfl) ?_
         refine EL.of (EO.Y (YO.loadBox hS 0 rfl 3 11 1 (ia a1.f8) 63 (by kernel_rfl) (by kernel_rfl) (by kernel_rfl) (by kernel_rfl)) ?_)
         refine EL.quick 3 [4] [(4, .bool (decide (a0.f8 = a1.f8)))] (by kernel_rfl) ?_
         refine EL.done (by kernel_rfl) ?_
         refine EQ.code ?_
         refine EW.ret (by kernel_rfl) ?_
         obtain rfl := Option.some.inj H
         exact EQ.leave (.bool (decide (a0.f8 = a1.f8))) (by kernel_rfl) ⟨_, rfl, rfl, (hS.re [] [0, 0] rfl (sub_self))⟩
        rw [if_neg b7] at H
        refine EL.keep [2, 3, 59] [(2, pt a3 0), (3, pt a2 0), (59, .bool (decide (a0.f7 = a1.f7)))] (by kernel_rfl) ?_
        refine EL.as' [(2, pt a3 0), (3, pt a2 0), (59, .bool (false))] (by simp only [cellsS58, dec_f b7, Bool.not_true, Bool.not_false]) ?_
        refine EL.quick 7 [4] [(4, .bool (false))] (by kernel_rfl) ?_
        refine EL.done (by kernel_rfl) ?_
        refine EQ.code ?_
        refine EW.ret (by kernel_rfl) ?_
        obtain rfl := Option.some.inj H
        exact EQ.leave (.bool (false)) (by kernel_rfl) ⟨_, rfl, rfl, (hS.re [] [0, 0] rfl (sub_self))⟩
       rw [if_neg b6] at H
       refine EL.keep [2, 3, 52] [(2, pt a3 0), (3, pt a2 0), (52, .bool (decide (a0.f6 = a1.f6)))] (by kernel_rfl) ?_
       refine EL.as' [(2, pt a3 0), (3, pt a2 0), (52, .bool (false))] (by simp only [cellsS58, dec_f b6, Bool.not_true, Bool.not_false]) ?_
       refine EL.quick 14 [4] [(4, .bool (false))] (by kernel_rfl) ?_
       refine EL.done (by kernel_rfl) ?_
       refine EQ.code ?_
       refine EW.ret (by kernel_rfl) ?_
       obtain rfl := Option.some.inj H
       exact EQ.leave (.bool (false)) (by kernel_rfl) ⟨_, rfl, rfl, (hS.re [] [0, 0] rfl (sub_self))⟩
      rw [if_neg b5] at H
      refine EL.keep [2, 3, 45] [(2, pt a3 0), (3, pt a2 0), (45, .bool (decide (a0.f5 = a1.f5)))] (by kernel_rfl) ?_
      refine EL.as' [(2, pt a3 0), (3, pt a2 0), (45, .bool (false))] (by simp only [cellsS58, dec_f b5, Bool.not_true, Bool.not_false]) ?_
      refine EL.quick 21 [4] [(4, .bool (false))] (by kernel_rfl) ?_
      refine EL.done (by kernel_rfl) ?_
      refine EQ.code ?_
      refine EW.ret (by kernel_rfl) ?_
      obtain rfl := Option.some.inj H
      exact EQ.leave (.bool (false)) (by kernel_rfl) ⟨_, rfl, rfl, (hS.re [] [0, 0] rfl (sub_self))⟩
     rw [if_neg b4] at H
     refine EL.keep [2, 3, 38] [(2, pt a3 0), (3, pt a2 0), (38, .bool (((a0.f4.f0 == a1.f4.f0) && ((a0.f4.f1 == a1.f4.f1) && ((a0.f4.f2 == a1.f4.f2) && ((a0.f4.f3 == a1.f4.f3) && true))))))] (by kernel_rfl) ?_
     refine EL.as' [(2, pt a3 0), (3, pt a2 0), (38, .bool (false))] (by simp only [cellsS58, (Bool.eq_false_iff.2 b4), Bool.not_true, Bool.not_false]) ?_
     refine EL.quick 28 [4] [(4, .bool (false))] (by kernel_rfl) ?_
     refine EL.done (by kernel_rfl) ?_
     refine EQ.code ?_
     refine EW.ret (by kernel_rfl) ?_
     obtain rfl := Option.some.inj H
     exact EQ.leave (.bool (false)) (by kernel_rfl) ⟨_, rfl, rfl, (hS.re [] [0, 0] rfl (sub_self))⟩
    rw [if_neg b3] at H
    refine EL.keep [2, 3, 31] [(2, pt a3 0), (3, pt a2 0), (31, .bool (a8))] (by kernel_rfl) ?_
    refine EL.as' [(2, pt a3 0), (3, pt a2 0), (31, .bool (false))] (by simp only [cellsS58, (Bool.eq_false_iff.2 b3), Bool.not_true, Bool.not_false]) ?_
    refine EL.quick 35 [4] [(4, .bool (false))] (by kernel_rfl) ?_
    refine EL.done (by kernel_rfl) ?_
    refine EQ.code ?_
    refine EW.ret (by kernel_rfl) ?_
    obtain rfl := Option.some.inj H
    exact EQ.leave (.bool (false)) (by kernel_rfl) ⟨_, rfl, rfl, (hS.re [] [0, 0] rfl (sub_self))⟩
   rw [if_neg b2] at H
   refine EL.keep [2, 3, 24] [(2, pt a3 0), (3, pt a2 0), (24, .bool (decide (a0.f2 = a1.f2)))] (by kernel_rfl) ?_
   refine EL.as' [(2, pt a3 0), (3, pt a2 0), (24, .bool (false))] (by simp only [cellsS58, dec_f b2, Bool.not_true, Bool.not_false]) ?_
   refine EL.quick 42 [4] [(4, .bool (false))] (by kernel_rfl) ?_
   refine EL.done (by kernel_rfl) ?_
   refine EQ.code ?_
   refine EW.ret (by kernel_rfl) ?_
   obtain rfl := Option.some.inj H
   exact EQ.leave (.bool (false)) (by kernel_rfl) ⟨_, rfl, rfl, (hS.re [] [0, 0] rfl (sub_self))⟩
  rw [if_neg b0] at H
  refine EL.keep [2, 3, 17] [(2, pt a3 0), (3, pt a2 0), (17, .bool (decide (a0.f1 = a1.f1)))] (by kernel_rfl) ?_
  refine EL.as' [(2, pt a3 0), (3, pt a2 0), (17, .bool (false))] (by simp only [cellsS58, dec_f b0, Bool.not_true, Bool.not_false]) ?_
  refine EL.quick 49 [4] [(4, .bool (false))] (by kernel_rfl) ?_
  refine EL.done (by kernel_rfl) ?_
  refine EQ.code ?_
  refine EW.ret (by kernel_rfl) ?_
  obtain rfl := Option.some.inj H
  exact EQ.leave (.bool (false)) (by kernel_rfl) ⟨_, rfl, rfl, (hS.re [] [0, 0] rfl (sub_self))⟩
 rw [if_neg a9] at H
 refine EL.keep [2, 3, 10] [(2, pt a3 0), (3, pt a2 0), (10, .bool (decide (a0.f0 = a1.f0)))] (by kernel_rfl) ?_
 refine EL.as' [(2, pt a3 0), (3, pt a2 0), (10, .bool (false))] (by simp only [cellsS58, dec_f a9, Bool.not_true, Bool.not_false]) ?_
 refine EL.quick 56 [4] [(4, .bool (false))] (by kernel_rfl) ?_
 refine EL.done (by kernel_rfl) ?_
 refine EQ.code ?_
 refine EW.ret (by kernel_rfl) ?_
 obtain rfl := Option.some.inj H
 exact EQ.leave (.bool (false)) (by kernel_rfl) ⟨_, rfl, rfl, (hS.re [] [0, 0] rfl (sub_self))⟩

end Go.Proofs.Ytlcnkngpankkpaa.G
