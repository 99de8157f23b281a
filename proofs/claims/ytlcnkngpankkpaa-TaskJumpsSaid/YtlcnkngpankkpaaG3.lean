import Derived.Test.YtlcnkngpankkpaaProg
import Derived.Test.YtlcnkngpankkpaaFwShort
import Derived.Test.YtlcnkngpankkpaaFwOpen
import Derived.Test.YtlcnkngpankkpaaG0
import Derived.Test.YtlcnkngpankkpaaG1
import Derived.Test.YtlcnkngpankkpaaG2
namespace Go.Proofs.Ytlcnkngpankkpaa.G
open Go Go.Fw Go.RowKit Go.Proofs
set_option linter.unusedVariables false
set_option linter.unusedSimpArgs false

/-! ### confidant/confidantlaw10.TaskJumps: function 11 -/
def confidantlaw10_TaskJumps.l0 (K : Nat) (a8 : Int) (d3 : (List S32) → Option Bool) : Nat → (List S32) → Int → Option Bool
 | 0, _, _ => none
 | n + 1, c1, b9 => if b9 < (IntKind.i64.wrap (Int.tmod a8 6)) then (lt ([(⟨2, 0⟩ : S32)] : List S32) fun d7 => (if (c1.length + d7.length) * 16 ≤ 140737488355328 then (lt (c1 ++ d7) fun d0 => (confidantlaw10_TaskJumps.l0 K a8 d3 n d0 (IntKind.i64.wrap (b9 + 1)))) else none)) else (d3 c1)
def confidantlaw10_TaskJumps.f (K : Nat) (a5 : Int) (a6 : Int) (a7 : Bool) (a8 : Int) : Option Bool := b1 (confidantlaw10_known.f K) fun (e2 : Bool) => (if e2 = true then (lt (fun (a2 : Bool) (a9 : Int) => (lt (fun (c6 : List S32) => (lt ([(⟨a9, IntKind.i32.wrap a6⟩ : S32)] : List S32) fun b7 => (if (c6.length + b7.length) * 16 ≤ 140737488355328 then (lt (c6 ++ b7) fun b4 => (lt ([5, a5] : List Int) fun a4 => (b2 (task_Step.f K ({zS58 with f2 := IntKind.i64.wrap (Int.tmod a8 6), f3 := a4} : S58) ([b4] : List (List S32))) fun (b8 : S63) (a1 : S58) => (lt (fun (d2 : Bool) (b0 : Int) => (lt (fun (b3 : Int) => (if b8.f0 = 1 then (if a1.f2 = b0 then (if (a1.f3.length : Int) = b3 then (if (0 : Int) < (a1.f3.length : Int) then (some (decide ((a1.f3.getD (0 : Int).toNat 0) = 5))) else none) else (some false)) else (some false)) else (some false))) fun f1 => (if d2 = true then (f1 2) else (f1 1)))) fun e8 => (lt (fun (c4 : Bool) (d8 : Bool) => (if d8 = true then (e8 c4 (IntKind.i64.wrap a6)) else (e8 c4 (IntKind.i64.wrap ((IntKind.i64.wrap (Int.tmod a8 6)) + 1))))) fun e9 => (if a2 = true then (e9 true true) else (e9 false (decide (a5 = 0))))))))) else none))) fun d3 => (confidantlaw10_TaskJumps.l0 K a8 d3 K ([] : List S32) 0))) fun e7 => (if a7 = true then (e7 true 10) else (e7 false 11))) else (some false))
set_option maxRecDepth 100000 in
theorem confidantlaw10_TaskJumps.calls {K : Nat} {a5 : Int} {a6 : Int} {a7 : Bool} {a8 : Int} {d1 : Bool} {B w : World} {os : List Ass} {rs : List Ro} (H : confidantlaw10_TaskJumps.f K a5 a6 a7 a8 = some d1) (hS : St B w (os) (rs)) :
  Calls Try.prog 11 [ib a5, ig a6, .bool (a7), ig a8].toArray w (fun en w' => ∃ v, en = .returned v ∧ v = .bool (d1) ∧ St B w' (os) (rs)) := by
 unfold confidantlaw10_TaskJumps.f at H
 refine calls_of_EW (args := [ib a5, ig a6, .bool (a7), ig a8]) (c := Cd11) 84 Try.func11 (by kernel_rfl) (by kernel_rfl) (by kernel_rfl) ?_
 refine EW.sq (by kernel_rfl) ?_
 refine EW.rg (by kernel_rfl) ?_
 refine EL.quick 1 [0, 1, 2, 3] [(0, ib a5), (1, ig a6), (2, .bool (a7)), (3, ig a8)] (by kernel_rfl) ?_
 refine EL.done (by kernel_rfl) ?_
 refine EQ.code ?_
 refine EW.sq (by kernel_rfl) ?_
 refine EW.sq (by kernel_rfl) ?_
 refine EW.rg (by kernel_rfl) ?_
 obtain ⟨e2, g6, H⟩ := b1_out H
 have hq := confidantlaw10_known.calls g6 hS
 refine EL.of (EO.callD 25 [] _ 18 (by kernel_rfl) (by kernel_rfl) (by kernel_rfl) hq ?_)
 rintro v w ⟨rfl, hS⟩
 refine EL.quick 1 [0, 1, 2, 3, 19] [(0, ib a5), (1, ig a6), (2, .bool (a7)), (3, ig a8), (19, .bool (!(e2)))] (by kernel_rfl) ?_
 refine EL.done (by kernel_rfl) ?_
 refine EQ.code ?_
 refine EW.cdQ (b := !(e2)) (e2 = true) (false) (by kernel_rfl) (by kernel_rfl) ⟨fun h => (by rw [h] <;> rfl), fun h => (by rw [Bool.eq_false_iff.2 h] <;> rfl)⟩ (fun f4 => ?_) (fun f4 => ?_)
 ·rw [if_pos f4] at H
  refine EW.skip (by kernel_rfl) ?_
  refine EQ.code ?_
  refine EW.sq (by kernel_rfl) ?_
  refine EW.rg (by kernel_rfl) ?_
  refine EL.quick 1 [0, 1, 2, 3, 9] [(0, ib a5), (1, ig a6), (2, .bool (a7)), (3, ig a8), (9, ia 11)] (by kernel_rfl) ?_
  refine EL.done (by kernel_rfl) ?_
  refine EQ.code ?_
  obtain ⟨e7, g8, H⟩ := lt_out H
  refine EW.ct (fun a w => ∃ a2 : Bool, ∃ a9 : Int, Sat 84 [(0, ib a5), (1, ig a6), (2, .bool (a2)), (3, ig a8), (9, ia a9)] a ∧ St B w (os) (rs) ∧ e7 a2 a9 = some d1) (by kernel_rfl) ?_ (fun a w hI => ?_)
  ·refine EW.sq (by kernel_rfl) ?_
   refine EW.rg (by kernel_rfl) ?_
   refine EL.quick 1 [0, 1, 2, 3, 9, 20] [(0, ib a5), (1, ig a6), (2, .bool (a7)), (3, ig a8), (9, ia 11), (20, .bool (a7))] (by kernel_rfl) ?_
   refine EL.done (by kernel_rfl) ?_
   refine EQ.code ?_
   refine EW.cdP' (a7) (by kernel_rfl) (by kernel_rfl) (fun e1 => ?_) (fun e1 => ?_)
   ·rw [if_pos e1] at H
    refine EW.keep [0, 1, 2, 3] [(0, ib a5), (1, ig a6), (2, .bool (a7)), (3, ig a8)] (by kernel_rfl) ?_
    refine EW.as' [(0, ib a5), (1, ig a6), (2, .bool (true)), (3, ig a8)] (by simp only [cellsS58, encS63, e1, Bool.not_true, Bool.not_false]) ?_
    refine EW.rg (by kernel_rfl) ?_
    refine EL.quick 1 [0, 1, 2, 3, 9] [(0, ib a5), (1, ig a6), (2, .bool (true)), (3, ig a8), (9, ia 10)] (by kernel_rfl) ?_
    refine EL.done (by kernel_rfl) ?_
    refine EQ.to ?_
    refine EQ.keep [0, 1, 2, 3, 9] [(0, ib a5), (1, ig a6), (2, .bool (true)), (3, ig a8), (9, ia 10)] (by kernel_rfl) ?_
    exact fun a ha => ⟨true, 10, ha, (hS.re [] [] rfl (sub_self)), H⟩
   rw [if_neg e1] at H
   refine EW.keep [0, 1, 2, 3, 9] [(0, ib a5), (1, ig a6), (2, .bool (a7)), (3, ig a8), (9, ia 11)] (by kernel_rfl) ?_
   refine EW.as' [(0, ib a5), (1, ig a6), (2, .bool (false)), (3, ig a8), (9, ia 11)] (by simp only [cellsS58, encS63, (Bool.eq_false_iff.2 e1), Bool.not_true, Bool.not_false]) ?_
   refine EW.skip (by kernel_rfl) ?_
   refine EQ.to ?_
   refine EQ.keep [0, 1, 2, 3, 9] [(0, ib a5), (1, ig a6), (2, .bool (false)), (3, ig a8), (9, ia 11)] (by kernel_rfl) ?_
   exact fun a ha => ⟨false, 11, ha, (hS.re [] [] rfl (sub_self)), H⟩
  obtain ⟨a2, a9, ha, hS, H⟩ := hI
  rw [g8] at H
  (try dsimp only at H)
  refine EW.at ?_ a ha
  clear ha a
  refine EW.sq (by kernel_rfl) ?_
  refine EW.rg (by kernel_rfl) ?_
  refine EL.quick 4 [0, 1, 2, 9, 10] [(0, ib a5), (1, ig a6), (2, .bool (a2)), (9, ia a9), (10, ia (IntKind.i64.wrap (Int.tmod a8 6)))] (by kernel_rfl) ?_
  refine EL.done (by kernel_rfl) ?_
  refine EQ.code ?_
  refine EW.sq (by kernel_rfl) ?_
  refine EW.rg (by kernel_rfl) ?_
  refine EL.quick 1 [0, 1, 2, 9, 10, 11] [(0, ib a5), (1, ig a6), (2, .bool (a2)), (9, ia a9), (10, ia (IntKind.i64.wrap (Int.tmod a8 6))), (11, sv none 0 ([] : List S32))] (by kernel_rfl) ?_
  refine EL.done (by kernel_rfl) ?_
  refine EQ.code ?_
  obtain ⟨d3, g9, H⟩ := lt_out H
  refine EW.ct (fun a w => ∃ c6 : List S32, ∃ d9 : Option Addr, ∃ e0 : Nat, Sat 84 [(0, ib a5), (1, ig a6), (2, .bool (a2)), (9, ia a9), (10, ia (IntKind.i64.wrap (Int.tmod a8 6))), (11, sv d9 e0 c6)] a ∧ St B w (Ass.own 32 kS32 d9 e0 c6 :: os) (rs) ∧ d3 c6 = some d1) (by kernel_rfl) ?_ (fun a w hI => ?_)
  ·refine EW.sq (by kernel_rfl) ?_
   refine EW.rg (by kernel_rfl) ?_
   refine EL.quick 1 [0, 1, 2, 9, 10, 11, 12] [(0, ib a5), (1, ig a6), (2, .bool (a2)), (9, ia a9), (10, ia (IntKind.i64.wrap (Int.tmod a8 6))), (11, sv none 0 ([] : List S32)), (12, ia 0)] (by kernel_rfl) ?_
   refine EL.done (by kernel_rfl) ?_
   refine EQ.code ?_
   refine EW.bl 0 (by kernel_rfl) ?_
   have hS := St.nilO hS 32 kS32
   refine EW.lp (fun n a w => ∃ c1 : List S32, ∃ b9 : Int, ∃ c7 : Option Addr, ∃ c8 : Nat, Sat 84 [(0, ib a5), (1, ig a6), (2, .bool (a2)), (9, ia a9), (10, ia (IntKind.i64.wrap (Int.tmod a8 6))), (11, sv c7 c8 c1), (12, ia b9)] a ∧ St B w (Ass.own 32 kS32 c7 c8 c1 :: os) (rs) ∧ confidantlaw10_TaskJumps.l0 K a8 d3 n c1 b9 = some d1) K (by kernel_rfl) ?_ (fun n a w hI => ?_)
   ·refine EQ.keep [0, 1, 2, 9, 10, 11, 12] [(0, ib a5), (1, ig a6), (2, .bool (a2)), (9, ia a9), (10, ia (IntKind.i64.wrap (Int.tmod a8 6))), (11, sv none 0 ([] : List S32)), (12, ia 0)] (by kernel_rfl) ?_
    exact fun a ha => ⟨([] : List S32), 0, none, 0, ha, (hS.re [0] [] rfl (sub_self)), H⟩
   obtain ⟨c1, b9, c7, c8, ha, hS, H⟩ := hI
   obtain _ | n := n
   ·simp [confidantlaw10_TaskJumps.l0] at H
   rw [confidantlaw10_TaskJumps.l0.eq_2] at H
   refine EW.at ?_ a ha
   clear ha a
   refine EW.sq (by kernel_rfl) ?_
   refine EW.sq (by kernel_rfl) ?_
   refine EW.rg (by kernel_rfl) ?_
   refine EL.quick 3 [0, 1, 2, 9, 10, 11, 12, 26] [(0, ib a5), (1, ig a6), (2, .bool (a2)), (9, ia a9), (10, ia (IntKind.i64.wrap (Int.tmod a8 6))), (11, sv c7 c8 c1), (12, ia b9), (26, .bool (decide (b9 < (IntKind.i64.wrap (Int.tmod a8 6)))))] (by kernel_rfl) ?_
   refine EL.done (by kernel_rfl) ?_
   refine EQ.code ?_
   refine EW.cdP (b9 < (IntKind.i64.wrap (Int.tmod a8 6))) (by kernel_rfl) (by kernel_rfl) (fun f5 => ?_) (fun f5 => ?_)
   ·rw [if_pos f5] at H
    refine EW.skip (by kernel_rfl) ?_
    refine EQ.code ?_
    refine EW.sq (by kernel_rfl) ?_
    refine EW.bl 1 (by kernel_rfl) ?_
    refine EW.rg (by kernel_rfl) ?_
    refine EL.quick 2 [0, 1, 2, 9, 10, 12, 29, 30] [(0, ib a5), (1, ig a6), (2, .bool (a2)), (9, ia a9), (10, ia (IntKind.i64.wrap (Int.tmod a8 6))), (12, ia b9), (29, sv c7 c8 c1), (30, ag [ia 2, ib 0])] (by kernel_rfl) ?_
    obtain ⟨d7, g1, H⟩ := lt_out H
    refine EL.of (EO.lit hS kS32 32 29 1 #[(0, ag [ia 2, ib 0])] [ia 2, ib 0] d7 31 (by kernel_rfl) (by kernel_rfl) (by kernel_rfl) (fun _ => (by kernel_rfl)) (by rw [g1]; rfl) (by kernel_rfl) (fun w G hr => (by rw [g1]; exact ⟨[ia 2, ib 0], [], rfl, ⟨[ia 2], [ib 0], rfl, rfl, ⟨[ib 0], [], rfl, rfl, rfl⟩⟩, rfl⟩)) ?_)
    intro g0 w hS
    obtain ⟨g4, H⟩ := ite_in H
    obtain ⟨d0, i3, H⟩ := lt_out H
    refine EL.of (EO.append hS 29 29 32 16 1 kS32 c7 c8 c1 rfl (some ⟨g0, 0, none⟩) 1 d7 (Rd.own 0 32 rfl) d0 i3 (fun d4 d5 => Ass.own 32 kS32 (some ⟨g0, 0, none⟩) 1 d7 :: Ass.own 32 kS32 d4 d5 d0 :: os) 32 (by kernel_rfl) (by kernel_rfl) (by kernel_rfl) (by kernel_rfl) g4 (fun _ _ => rfl) ?_)
    intro d4 d5 w hS
    refine EL.quick 1 [0, 1, 2, 9, 10, 11, 12] [(0, ib a5), (1, ig a6), (2, .bool (a2)), (9, ia a9), (10, ia (IntKind.i64.wrap (Int.tmod a8 6))), (11, sv d4 d5 d0), (12, ia b9)] (by kernel_rfl) ?_
    refine EL.done (by kernel_rfl) ?_
    refine EQ.pop ?_
    refine EQ.code ?_
    refine EW.rg (by kernel_rfl) ?_
    refine EL.quick 3 [0, 1, 2, 9, 10, 11, 12] [(0, ib a5), (1, ig a6), (2, .bool (a2)), (9, ia a9), (10, ia (IntKind.i64.wrap (Int.tmod a8 6))), (11, sv d4 d5 d0), (12, ia (IntKind.i64.wrap (b9 + 1)))] (by kernel_rfl) ?_
    refine EL.done (by kernel_rfl) ?_
    refine EQ.to ?_
    refine EQ.keep [0, 1, 2, 9, 10, 11, 12] [(0, ib a5), (1, ig a6), (2, .bool (a2)), (9, ia a9), (10, ia (IntKind.i64.wrap (Int.tmod a8 6))), (11, sv d4 d5 d0), (12, ia (IntKind.i64.wrap (b9 + 1)))] (by kernel_rfl) ?_
    exact fun a ha => ⟨n, Nat.lt_succ_self n, d0, IntKind.i64.wrap (b9 + 1), d4, d5, ha, (hS.re [1] [1] rfl (sub_self)), H⟩
   rw [if_neg f5] at H
   refine EW.exit (id := 0) (by kernel_rfl) ?_
   refine EQ.exitCode ?_
   refine EQ.exitTo ?_
   refine EQ.exitHere ?_
   refine EQ.to ?_
   refine EQ.keep [0, 1, 2, 9, 10, 11] [(0, ib a5), (1, ig a6), (2, .bool (a2)), (9, ia a9), (10, ia (IntKind.i64.wrap (Int.tmod a8 6))), (11, sv c7 c8 c1)] (by kernel_rfl) ?_
   exact fun a ha => ⟨c1, c7, c8, ha, (hS.re [0] [] rfl (sub_self)), H⟩
  obtain ⟨c6, d9, e0, ha, hS, H⟩ := hI
  rw [g9] at H
  (try dsimp only at H)
  refine EW.at ?_ a ha
  clear ha a
  refine EW.sq (by kernel_rfl) ?_
  refine EW.rg (by kernel_rfl) ?_
  refine EL.quick 5 [0, 1, 2, 10, 33, 37] [(0, ib a5), (1, ig a6), (2, .bool (a2)), (10, ia (IntKind.i64.wrap (Int.tmod a8 6))), (33, sv d9 e0 c6), (37, ag [ia a9, ib (IntKind.i32.wrap a6)])] (by kernel_rfl) ?_
  obtain ⟨b7, g2, H⟩ := lt_out H
  refine EL.of (EO.lit hS kS32 32 29 1 #[(0, ag [ia a9, ib (IntKind.i32.wrap a6)])] [ia a9, ib (IntKind.i32.wrap a6)] b7 38 (by kernel_rfl) (by kernel_rfl) (by kernel_rfl) (fun _ => (by kernel_rfl)) (by rw [g2]; rfl) (by kernel_rfl) (fun w G hr => (by rw [g2]; exact ⟨[ia a9, ib (IntKind.i32.wrap a6)], [], rfl, ⟨[ia a9], [ib (IntKind.i32.wrap a6)], rfl, rfl, ⟨[ib (IntKind.i32.wrap a6)], [], rfl, rfl, rfl⟩⟩, rfl⟩)) ?_)
  intro c5 w hS
  obtain ⟨g5, H⟩ := ite_in H
  obtain ⟨b4, i4, H⟩ := lt_out H
  refine EL.of (EO.append hS 29 29 32 16 1 kS32 d9 e0 c6 rfl (some ⟨c5, 0, none⟩) 1 b7 (Rd.own 0 32 rfl) b4 i4 (fun c2 c3 => Ass.own 32 kS32 (some ⟨c5, 0, none⟩) 1 b7 :: Ass.own 32 kS32 c2 c3 b4 :: os) 39 (by kernel_rfl) (by kernel_rfl) (by kernel_rfl) (by kernel_rfl) g5 (fun _ _ => rfl) ?_)
  intro c2 c3 w hS
  refine EL.quick 1 [0, 1, 2, 10, 11] [(0, ib a5), (1, ig a6), (2, .bool (a2)), (10, ia (IntKind.i64.wrap (Int.tmod a8 6))), (11, sv c2 c3 b4)] (by kernel_rfl) ?_
  refine EL.done (by kernel_rfl) ?_
  refine EQ.code ?_
  refine EW.sq (by kernel_rfl) ?_
  refine EW.rg (by kernel_rfl) ?_
  refine EL.quick 2 [0, 1, 2, 10, 11, 40, 41] [(0, ib a5), (1, ig a6), (2, .bool (a2)), (10, ia (IntKind.i64.wrap (Int.tmod a8 6))), (11, sv c2 c3 b4), (40, ia (IntKind.i64.wrap (Int.tmod a8 6))), (41, ib a5)] (by kernel_rfl) ?_
  obtain ⟨a4, g3, H⟩ := lt_out H
  refine EL.of (EO.lit hS (Kd.int .i32) 21 54 2 #[(0, ib 5), (1, ib a5)] [ib 5, ib a5] a4 42 (by kernel_rfl) (by kernel_rfl) (by kernel_rfl) (fun _ => (by kernel_rfl)) (by rw [g3]; rfl) (by kernel_rfl) (fun w G hr => (by rw [g3]; exact ⟨[ib 5], [ib a5], rfl, rfl, ⟨[ib a5], [], rfl, rfl, rfl⟩⟩)) ?_)
  intro b5 w hS
  refine EL.quick 1 [0, 1, 2, 10, 11, 43] [(0, ib a5), (1, ig a6), (2, .bool (a2)), (10, ia (IntKind.i64.wrap (Int.tmod a8 6))), (11, sv c2 c3 b4), (43, ag (cellsS58 {zS58 with f2 := IntKind.i64.wrap (Int.tmod a8 6), f3 := a4} ((some ⟨b5, 0, none⟩), 2)))] (by kernel_rfl) ?_
  refine EL.of (EO.alloc hS 58 (ag (cellsS58 zS58 (none, 0))) (cellsS58 zS58 (none, 0)) 13 (by kernel_rfl) (by kernel_rfl) (by kernel_rfl) (by kernel_rfl) (by first | rfl | kernel_rfl) ?_)
  intro c9 w hS
  refine EL.of (EO.storeBox (os' := Ass.box 58 c9 (cellsS58 {zS58 with f2 := IntKind.i64.wrap (Int.tmod a8 6), f3 := a4} ((some ⟨b5, 0, none⟩), 2)) :: Ass.own 21 (Kd.int .i32) (some ⟨b5, 0, none⟩) 2 a4 :: Ass.own 32 kS32 (some ⟨c5, 0, none⟩) 1 b7 :: Ass.own 32 kS32 c2 c3 b4 :: os) hS 0 rfl 58 0 (ag (cellsS58 {zS58 with f2 := IntKind.i64.wrap (Int.tmod a8 6), f3 := a4} ((some ⟨b5, 0, none⟩), 2))) (cellsS58 {zS58 with f2 := IntKind.i64.wrap (Int.tmod a8 6), f3 := a4} ((some ⟨b5, 0, none⟩), 2)) (by kernel_rfl) (by kernel_rfl) (by kernel_rfl) (by kernel_rfl) (by kernel_rfl) (by kernel_rfl) rfl rfl ?_)
  intro w hS
  refine EL.done (by kernel_rfl) ?_
  refine EQ.code ?_
  refine EW.sq (by kernel_rfl) ?_
  refine EW.rg (by kernel_rfl) ?_
  refine EL.of (EO.Y (YO.loadBox hS 0 rfl 58 0 12 (ag (cellsS58 {zS58 with f2 := IntKind.i64.wrap (Int.tmod a8 6), f3 := a4} ((some ⟨b5, 0, none⟩), 2))) 45 (by kernel_rfl) (by kernel_rfl) (by kernel_rfl) (by kernel_rfl)) ?_)
  refine EL.quick 1 [0, 1, 2, 10, 45, 46] [(0, ib a5), (1, ig a6), (2, .bool (a2)), (10, ia (IntKind.i64.wrap (Int.tmod a8 6))), (45, ag (cellsS58 {zS58 with f2 := IntKind.i64.wrap (Int.tmod a8 6), f3 := a4} ((some ⟨b5, 0, none⟩), 2))), (46, sv c2 c3 b4)] (by kernel_rfl) ?_
  refine EL.of (EO.lit (xs := ([(c2, b4.length, c3)] : List Hdr)) hS Kd.hdr 29 23 1 #[(0, sv c2 c3 b4)] [sv c2 c3 b4] 47 (by kernel_rfl) (by kernel_rfl) (by kernel_rfl) (fun _ => (by kernel_rfl)) rfl (by kernel_rfl) (fun w G hr => ⟨[sv c2 c3 b4], [], rfl, rfl, rfl⟩) ?_)
  intro d6 w hS
  have hS := St.fr hS 2 rfl
  have hS := St.as (os' := Ass.deep 29 32 kS32 (some ⟨d6, 0, none⟩) 1 ([b4] : List (List S32)) :: Ass.box 58 c9 (cellsS58 {zS58 with f2 := IntKind.i64.wrap (Int.tmod a8 6), f3 := a4} ((some ⟨b5, 0, none⟩), 2)) :: Ass.own 32 kS32 (some ⟨c5, 0, none⟩) 1 b7 :: os) (St.fold (B := B) (os := _) (rs := _) (et := 29) (et' := 32) (K := kS32) (hs := [(c2, b4.length, c3)]) (xs := ([b4] : List (List S32))) ⟨rfl, trivial⟩ (St.re hS [3, 1] [] rfl sub_self)) rfl
  have hS := St.frDeep hS 0 rfl
  have hS : St B _ (Ass.box 58 c9 (cellsS58 {zS58 with f2 := IntKind.i64.wrap (Int.tmod a8 6), f3 := a4} ((some ⟨b5, 0, none⟩), 2)) :: Ass.own 32 kS32 (some ⟨c5, 0, none⟩) 1 b7 :: os) (Ro.sl (Kd.int .i32) (some ⟨b5, 0, none⟩) 2 a4 :: Ro.sl (Kd.slice kS32) (some ⟨d6, 0, none⟩) 1 ([b4] : List (List S32)) :: rs) := hS.re [] [] rfl (sub_cons 1 rfl (sub_cons 0 rfl (sub_tail (sub_tail (sub_self)))))
  obtain ⟨b8, a1, g7, H⟩ := b2_out H
  have hq := task_Step.calls g7 hS
  refine EL.of (EO.callD 28 [ag (cellsS58 {zS58 with f2 := IntKind.i64.wrap (Int.tmod a8 6), f3 := a4} ((some ⟨b5, 0, none⟩), 2)), sv (some ⟨d6, 0, none⟩) 1 ([b4] : List (List S32))] _ 48 (by kernel_rfl) (by kernel_rfl) (by kernel_rfl) hq ?_)
  rintro v w ⟨c0, b6, rfl, hS⟩
  refine EL.quick 3 [0, 1, 2, 10, 49, 50] [(0, ib a5), (1, ig a6), (2, .bool (a2)), (10, ia (IntKind.i64.wrap (Int.tmod a8 6))), (49, ag (cellsS58 a1 (c0, b6))), (50, ag (encS63 b8))] (by kernel_rfl) ?_
  refine EL.of (EO.alloc hS 58 (ag (cellsS58 zS58 (none, 0))) (cellsS58 zS58 (none, 0)) 14 (by kernel_rfl) (by kernel_rfl) (by kernel_rfl) (by kernel_rfl) (by first | rfl | kernel_rfl) ?_)
  intro a0 w hS
  refine EL.of (EO.alloc hS 63 (ag (encS63 zS63)) (encS63 zS63) 15 (by kernel_rfl) (by kernel_rfl) (by kernel_rfl) (by kernel_rfl) (by first | rfl | kernel_rfl) ?_)
  intro a3 w hS
  refine EL.of (EO.storeBox (os' := Ass.box 63 a3 (encS63 zS63) :: Ass.box 58 a0 (cellsS58 a1 (c0, b6)) :: Ass.box 58 c9 (cellsS58 {zS58 with f2 := IntKind.i64.wrap (Int.tmod a8 6), f3 := a4} ((some ⟨b5, 0, none⟩), 2)) :: Ass.own 32 kS32 (some ⟨c5, 0, none⟩) 1 b7 :: os) hS 1 rfl 58 0 (ag (cellsS58 a1 (c0, b6))) (cellsS58 a1 (c0, b6)) (by kernel_rfl) (by kernel_rfl) (by kernel_rfl) (by kernel_rfl) (by kernel_rfl) (by kernel_rfl) rfl rfl ?_)
  intro w hS
  refine EL.of (EO.storeBox (os' := Ass.box 63 a3 (encS63 b8) :: Ass.box 58 a0 (cellsS58 a1 (c0, b6)) :: Ass.box 58 c9 (cellsS58 {zS58 with f2 := IntKind.i64.wrap (Int.tmod a8 6), f3 := a4} ((some ⟨b5, 0, none⟩), 2)) :: Ass.own 32 kS32 (some ⟨c5, 0, none⟩) 1 b7 :: os) hS 0 rfl 63 0 (ag (encS63 b8)) (encS63 b8) (by kernel_rfl) (by kernel_rfl) (by kernel_rfl) (by kernel_rfl) (by kernel_rfl) (by kernel_rfl) rfl rfl ?_)
  intro w hS
  refine EL.done (by kernel_rfl) ?_
  refine EQ.code ?_
  refine EW.sq (by kernel_rfl) ?_
  refine EW.rg (by kernel_rfl) ?_
  refine EL.quick 3 [0, 1, 2, 14, 15, 16] [(0, ib a5), (1, ig a6), (2, .bool (a2)), (14, pt a0 0), (15, pt a3 0), (16, ia (IntKind.i64.wrap ((IntKind.i64.wrap (Int.tmod a8 6)) + 1)))] (by kernel_rfl) ?_
  refine EL.done (by kernel_rfl) ?_
  refine EQ.code ?_
  obtain ⟨e8, i0, H⟩ := lt_out H
  refine EW.ct (fun a w => ∃ d2 : Bool, ∃ b0 : Int, Sat 84 [(2, .bool (d2)), (14, pt a0 0), (15, pt a3 0), (16, ia b0)] a ∧ St B w (Ass.box 63 a3 (encS63 b8) :: Ass.box 58 a0 (cellsS58 a1 (c0, b6)) :: Ass.box 58 c9 (cellsS58 {zS58 with f2 := IntKind.i64.wrap (Int.tmod a8 6), f3 := a4} ((some ⟨b5, 0, none⟩), 2)) :: Ass.own 32 kS32 (some ⟨c5, 0, none⟩) 1 b7 :: os) (Ro.sl (Kd.int .i32) c0 b6 a1.f3 :: Ro.sl (Kd.int .i32) (some ⟨b5, 0, none⟩) 2 a4 :: Ro.sl (Kd.slice kS32) (some ⟨d6, 0, none⟩) 1 ([b4] : List (List S32)) :: rs) ∧ e8 d2 b0 = some d1) (by kernel_rfl) ?_ (fun a w hI => ?_)
  ·obtain ⟨e9, i1, H⟩ := lt_out H
   refine EW.ct (fun a w => ∃ c4 : Bool, ∃ d8 : Bool, Sat 84 [(1, ig a6), (2, .bool (c4)), (14, pt a0 0), (15, pt a3 0), (16, ia (IntKind.i64.wrap ((IntKind.i64.wrap (Int.tmod a8 6)) + 1))), (57, .bool (d8))] a ∧ St B w (Ass.box 63 a3 (encS63 b8) :: Ass.box 58 a0 (cellsS58 a1 (c0, b6)) :: Ass.box 58 c9 (cellsS58 {zS58 with f2 := IntKind.i64.wrap (Int.tmod a8 6), f3 := a4} ((some ⟨b5, 0, none⟩), 2)) :: Ass.own 32 kS32 (some ⟨c5, 0, none⟩) 1 b7 :: os) (Ro.sl (Kd.int .i32) c0 b6 a1.f3 :: Ro.sl (Kd.int .i32) (some ⟨b5, 0, none⟩) 2 a4 :: Ro.sl (Kd.slice kS32) (some ⟨d6, 0, none⟩) 1 ([b4] : List (List S32)) :: rs) ∧ e9 c4 d8 = some d1) (by kernel_rfl) ?_ (fun a w hI => ?_)
   ·refine EW.rg (by kernel_rfl) ?_
    refine EL.quick 2 [0, 1, 2, 14, 15, 16, 54] [(0, ib a5), (1, ig a6), (2, .bool (a2)), (14, pt a0 0), (15, pt a3 0), (16, ia (IntKind.i64.wrap ((IntKind.i64.wrap (Int.tmod a8 6)) + 1))), (54, .bool (a2))] (by kernel_rfl) ?_
    by_cases e3 : a2 = true
    ·rw [if_pos e3] at H
     refine EL.keep [0, 1, 2, 14, 15, 16, 54] [(0, ib a5), (1, ig a6), (2, .bool (a2)), (14, pt a0 0), (15, pt a3 0), (16, ia (IntKind.i64.wrap ((IntKind.i64.wrap (Int.tmod a8 6)) + 1))), (54, .bool (a2))] (by kernel_rfl) ?_
     refine EL.as' [(0, ib a5), (1, ig a6), (2, .bool (true)), (14, pt a0 0), (15, pt a3 0), (16, ia (IntKind.i64.wrap ((IntKind.i64.wrap (Int.tmod a8 6)) + 1))), (54, .bool (true))] (by simp only [cellsS58, encS63, e3, Bool.not_true, Bool.not_false]) ?_
     refine EL.quick 3 [1, 2, 14, 15, 16, 57] [(1, ig a6), (2, .bool (true)), (14, pt a0 0), (15, pt a3 0), (16, ia (IntKind.i64.wrap ((IntKind.i64.wrap (Int.tmod a8 6)) + 1))), (57, .bool (true))] (by kernel_rfl) ?_
     refine EL.done (by kernel_rfl) ?_
     refine EQ.to ?_
     refine EQ.keep [1, 2, 14, 15, 16, 57] [(1, ig a6), (2, .bool (true)), (14, pt a0 0), (15, pt a3 0), (16, ia (IntKind.i64.wrap ((IntKind.i64.wrap (Int.tmod a8 6)) + 1))), (57, .bool (true))] (by kernel_rfl) ?_
     exact fun a ha => ⟨true, true, ha, (hS.re [3, 3, 3, 3] [] rfl (sub_cons 0 rfl (sub_cons 1 rfl (sub_cons 2 rfl (sub_tail (sub_tail (sub_tail (sub_self)))))))), H⟩
    rw [if_neg e3] at H
    refine EL.keep [0, 1, 2, 14, 15, 16, 54] [(0, ib a5), (1, ig a6), (2, .bool (a2)), (14, pt a0 0), (15, pt a3 0), (16, ia (IntKind.i64.wrap ((IntKind.i64.wrap (Int.tmod a8 6)) + 1))), (54, .bool (a2))] (by kernel_rfl) ?_
    refine EL.as' [(0, ib a5), (1, ig a6), (2, .bool (false)), (14, pt a0 0), (15, pt a3 0), (16, ia (IntKind.i64.wrap ((IntKind.i64.wrap (Int.tmod a8 6)) + 1))), (54, .bool (false))] (by simp only [cellsS58, encS63, (Bool.eq_false_iff.2 e3), Bool.not_true, Bool.not_false]) ?_
    refine EL.quick 3 [1, 2, 14, 15, 16, 57] [(1, ig a6), (2, .bool (false)), (14, pt a0 0), (15, pt a3 0), (16, ia (IntKind.i64.wrap ((IntKind.i64.wrap (Int.tmod a8 6)) + 1))), (57, .bool (decide (a5 = 0)))] (by kernel_rfl) ?_
    refine EL.done (by kernel_rfl) ?_
    refine EQ.to ?_
    refine EQ.keep [1, 2, 14, 15, 16, 57] [(1, ig a6), (2, .bool (false)), (14, pt a0 0), (15, pt a3 0), (16, ia (IntKind.i64.wrap ((IntKind.i64.wrap (Int.tmod a8 6)) + 1))), (57, .bool (decide (a5 = 0)))] (by kernel_rfl) ?_
    exact fun a ha => ⟨false, decide (a5 = 0), ha, (hS.re [3, 3, 3, 3] [] rfl (sub_cons 0 rfl (sub_cons 1 rfl (sub_cons 2 rfl (sub_tail (sub_tail (sub_tail (sub_self)))))))), H⟩
   obtain ⟨c4, d8, ha, hS, H⟩ := hI
   rw [i1] at H
   (try dsimp only at H)
   refine EW.at ?_ a ha
   clear ha a
   refine EW.cdP' (d8) (by kernel_rfl) (by kernel_rfl) (fun f6 => ?_) (fun f6 => ?_)
   ·rw [if_pos f6] at H
    refine EW.rg (by kernel_rfl) ?_
    refine EL.quick 3 [2, 14, 15, 16] [(2, .bool (c4)), (14, pt a0 0), (15, pt a3 0), (16, ia (IntKind.i64.wrap a6))] (by kernel_rfl) ?_
    refine EL.done (by kernel_rfl) ?_
    refine EQ.to ?_
    refine EQ.keep [2, 14, 15, 16] [(2, .bool (c4)), (14, pt a0 0), (15, pt a3 0), (16, ia (IntKind.i64.wrap a6))] (by kernel_rfl) ?_
    exact fun a ha => ⟨c4, IntKind.i64.wrap a6, ha, (hS.re [3, 3, 3, 3] [] rfl (sub_cons 0 rfl (sub_cons 1 rfl (sub_cons 2 rfl (sub_tail (sub_tail (sub_tail (sub_self)))))))), H⟩
   rw [if_neg f6] at H
   refine EW.skip (by kernel_rfl) ?_
   refine EQ.to ?_
   refine EQ.keep [2, 14, 15, 16] [(2, .bool (c4)), (14, pt a0 0), (15, pt a3 0), (16, ia (IntKind.i64.wrap ((IntKind.i64.wrap (Int.tmod a8 6)) + 1)))] (by kernel_rfl) ?_
   exact fun a ha => ⟨c4, IntKind.i64.wrap ((IntKind.i64.wrap (Int.tmod a8 6)) + 1), ha, (hS.re [3, 3, 3, 3] [] rfl (sub_cons 0 rfl (sub_cons 1 rfl (sub_cons 2 rfl (sub_tail (sub_tail (sub_tail (sub_self)))))))), H⟩
  obtain ⟨d2, b0, ha, hS, H⟩ := hI
  rw [i0] at H
  (try dsimp only at H)
  refine EW.at ?_ a ha
  clear ha a
  refine EW.sq (by kernel_rfl) ?_
  refine EW.rg (by kernel_rfl) ?_
  refine EL.quick 1 [2, 14, 15, 16, 17] [(2, .bool (d2)), (14, pt a0 0), (15, pt a3 0), (16, ia b0), (17, ia 1)] (by kernel_rfl) ?_
  refine EL.done (by kernel_rfl) ?_
  refine EQ.code ?_
  obtain ⟨f1, i2, H⟩ := lt_out H
  refine EW.ct (fun a w => ∃ b3 : Int, Sat 84 [(14, pt a0 0), (15, pt a3 0), (16, ia b0), (17, ia b3)] a ∧ St B w (Ass.box 63 a3 (encS63 b8) :: Ass.box 58 a0 (cellsS58 a1 (c0, b6)) :: Ass.box 58 c9 (cellsS58 {zS58 with f2 := IntKind.i64.wrap (Int.tmod a8 6), f3 := a4} ((some ⟨b5, 0, none⟩), 2)) :: Ass.own 32 kS32 (some ⟨c5, 0, none⟩) 1 b7 :: os) (Ro.sl (Kd.int .i32) c0 b6 a1.f3 :: Ro.sl (Kd.int .i32) (some ⟨b5, 0, none⟩) 2 a4 :: Ro.sl (Kd.slice kS32) (some ⟨d6, 0, none⟩) 1 ([b4] : List (List S32)) :: rs) ∧ f1 b3 = some d1) (by kernel_rfl) ?_ (fun a w hI => ?_)
  ·refine EW.sq (by kernel_rfl) ?_
   refine EW.rg (by kernel_rfl) ?_
   refine EL.quick 1 [14, 15, 16, 17, 60] [(14, pt a0 0), (15, pt a3 0), (16, ia b0), (17, ia 1), (60, .bool (d2))] (by kernel_rfl) ?_
   refine EL.done (by kernel_rfl) ?_
   refine EQ.code ?_
   refine EW.cdP' (d2) (by kernel_rfl) (by kernel_rfl) (fun f7 => ?_) (fun f7 => ?_)
   ·rw [if_pos f7] at H
    refine EW.rg (by kernel_rfl) ?_
    refine EL.quick 1 [14, 15, 16, 17] [(14, pt a0 0), (15, pt a3 0), (16, ia b0), (17, ia 2)] (by kernel_rfl) ?_
    refine EL.done (by kernel_rfl) ?_
    refine EQ.to ?_
    refine EQ.keep [14, 15, 16, 17] [(14, pt a0 0), (15, pt a3 0), (16, ia b0), (17, ia 2)] (by kernel_rfl) ?_
    exact fun a ha => ⟨2, ha, (hS.re [3, 3, 3, 3] [] rfl (sub_cons 0 rfl (sub_cons 1 rfl (sub_cons 2 rfl (sub_tail (sub_tail (sub_tail (sub_self)))))))), H⟩
   rw [if_neg f7] at H
   refine EW.skip (by kernel_rfl) ?_
   refine EQ.to ?_
   refine EQ.keep [14, 15, 16, 17] [(14, pt a0 0), (15, pt a3 0), (16, ia b0), (17, ia 1)] (by kernel_rfl) ?_
   exact fun a ha => ⟨1, ha, (hS.re [3, 3, 3, 3] [] rfl (sub_cons 0 rfl (sub_cons 1 rfl (sub_cons 2 rfl (sub_tail (sub_tail (sub_tail (sub_self)))))))), H⟩
  obtain ⟨b3, ha, hS, H⟩ := hI
  rw [i2] at H
  (try dsimp only at H)
  refine EW.at ?_ a ha
  clear ha a
  refine EW.sq (by kernel_rfl) ?_
  refine EW.rg (by kernel_rfl) ?_
  refine EL.quick 1 [14, 16, 17, 61] [(14, pt a0 0), (16, ia b0), (17, ia b3), (61, pt a3 0)] (by kernel_rfl) ?_
  refine EL.of (EO.Y (YO.loadBox hS 0 rfl 3 0 1 (ia b8.f0) 62 (by kernel_rfl) (by kernel_rfl) (by kernel_rfl) (by kernel_rfl)) ?_)
  refine EL.quick 2 [14, 16, 17, 64] [(14, pt a0 0), (16, ia b0), (17, ia b3), (64, .bool (decide (b8.f0 = 1)))] (by kernel_rfl) ?_
  by_cases e4 : b8.f0 = 1
  ·rw [if_pos e4] at H
   refine EL.keep [14, 16, 17, 64] [(14, pt a0 0), (16, ia b0), (17, ia b3), (64, .bool (decide (b8.f0 = 1)))] (by kernel_rfl) ?_
   refine EL.as' [(14, pt a0 0), (16, ia b0), (17, ia b3), (64, .bool (true))] (by simp only [cellsS58, encS63, dec_t e4, Bool.not_true, Bool.not_false]) ?_
   refine EL.quick 1 [14, 16, 17, 64, 65] [(14, pt a0 0), (16, ia b0), (17, ia b3), (64, .bool (true)), (65, pt a0 2)] (by kernel_rfl) ?_
   refine EL.of (EO.Y (YO.loadBox hS 1 rfl 3 2 1 (ia a1.f2) 66 (by kernel_rfl) (by kernel_rfl) (by kernel_rfl) (by kernel_rfl)) ?_)
   refine EL.quick 4 [14, 17, 70] [(14, pt a0 0), (17, ia b3), (70, .bool (decide (a1.f2 = b0)))] (by kernel_rfl) ?_
   by_cases e5 : a1.f2 = b0
   ·rw [if_pos e5] at H
    refine EL.keep [14, 17, 70] [(14, pt a0 0), (17, ia b3), (70, .bool (decide (a1.f2 = b0)))] (by kernel_rfl) ?_
    refine EL.as' [(14, pt a0 0), (17, ia b3), (70, .bool (true))] (by simp only [cellsS58, encS63, dec_t e5, Bool.not_true, Bool.not_false]) ?_
    refine EL.quick 1 [14, 17, 70, 71] [(14, pt a0 0), (17, ia b3), (70, .bool (true)), (71, pt a0 3)] (by kernel_rfl) ?_
    refine EL.of (EO.Y (YO.loadBox hS 1 rfl 54 3 1 (sv c0 b6 a1.f3) 72 (by kernel_rfl) (by kernel_rfl) (by kernel_rfl) (by kernel_rfl)) ?_)
    refine EL.quick 5 [14, 77] [(14, pt a0 0), (77, .bool (decide ((a1.f3.length : Int) = b3)))] (by kernel_rfl) ?_
    by_cases e6 : (a1.f3.length : Int) = b3
    ·rw [if_pos e6] at H
     refine EL.keep [14, 77] [(14, pt a0 0), (77, .bool (decide ((a1.f3.length : Int) = b3)))] (by kernel_rfl) ?_
     refine EL.as' [(14, pt a0 0), (77, .bool (true))] (by simp only [cellsS58, encS63, dec_t e6, Bool.not_true, Bool.not_false]) ?_
     refine EL.quick 1 [77, 78] [(77, .bool (true)), (78, pt a0 3)] (by kernel_rfl) ?_
     refine EL.of (EO.Y (YO.loadBox hS 1 rfl 54 3 1 (sv c0 b6 a1.f3) 79 (by kernel_rfl) (by kernel_rfl) (by kernel_rfl) (by kernel_rfl)) ?_)
     obtain ⟨f8, H⟩ := ite_in H
     obtain ⟨f9, rfl⟩ := St.rd_some hS (Rd.ro 0 rfl) (by decide) f8
     refine EL.of (EO.Y (YO.idx 54 1 f9 a1.f3.length b6 .i64 0 80 (by kernel_rfl) (by kernel_rfl) (by kernel_rfl) (by kernel_rfl) (by decide) f8) ?_)
     refine EL.of (EO.Y (YO.loadEl hS (Kd.int .i32) f9 b6 a1.f3 (Rd.ro 0 rfl) 0 (encI .i32) encI_of 0 (by decide) f8 21 1 0 1 rfl (ib (a1.f3.getD (0 : Int).toNat 0)) 81 (by kernel_rfl) (by kernel_rfl) (by kernel_rfl) (by kernel_rfl)) ?_)
     refine EL.quick 3 [8] [(8, .bool (decide ((a1.f3.getD (0 : Int).toNat 0) = 5)))] (by kernel_rfl) ?_
     refine EL.done (by kernel_rfl) ?_
     refine EQ.code ?_
     refine EW.ret (by kernel_rfl) ?_
     obtain rfl := Option.some.inj H
     exact EQ.leave (.bool (decide ((a1.f3.getD (0 : Int).toNat 0) = 5))) (by kernel_rfl) ⟨_, rfl, rfl, (hS.re [] [0, 0, 0, 0] rfl (sub_tail (sub_tail (sub_tail (sub_self)))))⟩
    rw [if_neg e6] at H
    refine EL.keep [14, 77] [(14, pt a0 0), (77, .bool (decide ((a1.f3.length : Int) = b3)))] (by kernel_rfl) ?_
    refine EL.as' [(14, pt a0 0), (77, .bool (false))] (by simp only [cellsS58, encS63, dec_f e6, Bool.not_true, Bool.not_false]) ?_
    refine EL.quick 7 [8] [(8, .bool (false))] (by kernel_rfl) ?_
    refine EL.done (by kernel_rfl) ?_
    refine EQ.code ?_
    refine EW.ret (by kernel_rfl) ?_
    obtain rfl := Option.some.inj H
    exact EQ.leave (.bool (false)) (by kernel_rfl) ⟨_, rfl, rfl, (hS.re [] [0, 0, 0, 0] rfl (sub_tail (sub_tail (sub_tail (sub_self)))))⟩
   rw [if_neg e5] at H
   refine EL.keep [14, 17, 70] [(14, pt a0 0), (17, ia b3), (70, .bool (decide (a1.f2 = b0)))] (by kernel_rfl) ?_
   refine EL.as' [(14, pt a0 0), (17, ia b3), (70, .bool (false))] (by simp only [cellsS58, encS63, dec_f e5, Bool.not_true, Bool.not_false]) ?_
   refine EL.quick 14 [8] [(8, .bool (false))] (by kernel_rfl) ?_
   refine EL.done (by kernel_rfl) ?_
   refine EQ.code ?_
   refine EW.ret (by kernel_rfl) ?_
   obtain rfl := Option.some.inj H
   exact EQ.leave (.bool (false)) (by kernel_rfl) ⟨_, rfl, rfl, (hS.re [] [0, 0, 0, 0] rfl (sub_tail (sub_tail (sub_tail (sub_self)))))⟩
  rw [if_neg e4] at H
  refine EL.keep [14, 16, 17, 64] [(14, pt a0 0), (16, ia b0), (17, ia b3), (64, .bool (decide (b8.f0 = 1)))] (by kernel_rfl) ?_
  refine EL.as' [(14, pt a0 0), (16, ia b0), (17, ia b3), (64, .bool (false))] (by simp only [cellsS58, encS63, dec_f e4, Bool.not_true, Bool.not_false]) ?_
  refine EL.quick 20 [8] [(8, .bool (false))] (by kernel_rfl) ?_
  refine EL.done (by kernel_rfl) ?_
  refine EQ.code ?_
  refine EW.ret (by kernel_rfl) ?_
  obtain rfl := Option.some.inj H
  exact EQ.leave (.bool (false)) (by kernel_rfl) ⟨_, rfl, rfl, (hS.re [] [0, 0, 0, 0] rfl (sub_tail (sub_tail (sub_tail (sub_self)))))⟩
 rw [if_neg f4] at H
 refine EW.sq (by kernel_rfl) ?_
 refine EW.rg (by kernel_rfl) ?_
 refine EL.quick 1 [8] [(8, .bool (false))] (by kernel_rfl) ?_
 refine EL.done (by kernel_rfl) ?_
 refine EQ.code ?_
 refine EW.ret (by kernel_rfl) ?_
 refine EQ.ret ?_
 obtain rfl := Option.some.inj H
 exact EQ.leave (.bool (false)) (by kernel_rfl) ⟨_, rfl, rfl, (hS.re [] [] rfl (sub_self))⟩

def confidantlaw10_TaskJumps.Pure : Prop := ∀ (a5 : Int) (a6 : Int) (a7 : Bool) (a8 : Int), (Lit.int .i32 a5).wf = true → (Lit.int .u8 a6).wf = true → (Lit.int .u8 a8).wf = true → ∃ K, confidantlaw10_TaskJumps.f K a5 a6 a7 a8 = some true

end Go.Proofs.Ytlcnkngpankkpaa.G
