import Derived.Test.YtlcnkngpankkpaaProg
import Derived.Test.YtlcnkngpankkpaaFwShort
import Derived.Test.YtlcnkngpankkpaaFwOpen
import Derived.Test.YtlcnkngpankkpaaG0
import Derived.Test.YtlcnkngpankkpaaG6
namespace Go.Proofs.Ytlcnkngpankkpaa.G
open Go Go.Fw Go.RowKit Go.Proofs
set_option linter.unusedVariables false
set_option linter.unusedSimpArgs false

noncomputable def Cd8 : Code := bodyOf Try.f8

noncomputable def Cd13 : Code := bodyOf Try.f13

noncomputable def Cd23 : Code := bodyOf Try.f23

noncomputable def Cd24 : Code := bodyOf Try.f24

noncomputable def Cd26 : Code := bodyOf Try.f26

noncomputable def Cd27 : Code := bodyOf Try.f27

noncomputable def Cd35 : Code := bodyOf Try.f35

/-! ### confidant/confidanthelp.SmallTask: function 26 -/
def confidanthelp_SmallTask.f (K : Nat) (a68 : S58) : Option Bool := some (decide ((a68.f3.length : Int) ≤ 40))
set_option maxRecDepth 100000 in
theorem confidanthelp_SmallTask.calls {K : Nat} {a68 : S58} {A69 : Option Addr} {C70 : Nat} {x73 : Bool} {B w : World} {os : List Ass} {rs : List Ro} (H : confidanthelp_SmallTask.f K a68 = some x73) (hS : St B w (os) (Ro.sl (Kd.int .i32) A69 C70 a68.f3 :: rs)) :
  Calls Try.prog 26 [ag (cellsS58 a68 (A69, C70))].toArray w (fun en w' => ∃ v, en = .returned v ∧ v = .bool (x73) ∧ St B w' (os) (Ro.sl (Kd.int .i32) A69 C70 a68.f3 :: rs)) := by
 unfold confidanthelp_SmallTask.f at H
 refine calls_of_EW (args := [ag (cellsS58 a68 (A69, C70))]) (c := Cd26) 7 Try.func26 (by kernel_rfl) (by kernel_rfl) (by kernel_rfl) ?_
 refine EW.sq (by kernel_rfl) ?_
 refine EW.rg (by kernel_rfl) ?_
 refine EL.of (EO.box hS 58 (ag (cellsS58 a68 (A69, C70))) (cellsS58 a68 (A69, C70)) 1 (by kernel_rfl) (by kernel_rfl) (by kernel_rfl) (by first | rfl | kernel_rfl) ?_)
 intro g75 w hS
 refine EL.quick 1 [1] [(1, pt g75 0)] (by kernel_rfl) ?_
 refine EL.done (by kernel_rfl) ?_
 refine EQ.code ?_
 refine EW.sq (by kernel_rfl) ?_
 refine EW.rg (by kernel_rfl) ?_
 refine EL.quick 1 [3] [(3, pt g75 3)] (by kernel_rfl) ?_
 refine EL.of (EO.Y (YO.loadBox hS 0 rfl 54 3 1 (sv A69 C70 a68.f3) 4 (by kernel_rfl) (by kernel_rfl) (by kernel_rfl) (by kernel_rfl)) ?_)
 refine EL.quick 3 [2] [(2, .bool (decide ((a68.f3.length : Int) ≤ 40)))] (by kernel_rfl) ?_
 refine EL.done (by kernel_rfl) ?_
 refine EQ.code ?_
 refine EW.ret (by kernel_rfl) ?_
 obtain rfl := Option.some.inj H
 exact EQ.leave (.bool (decide ((a68.f3.length : Int) ≤ 40))) (by kernel_rfl) ⟨_, rfl, rfl, (hS.re [] [0] rfl (sub_self))⟩

/-! ### confidant/confidanthelp.SmallImage: function 13 -/
def confidanthelp_SmallImage.l0 (K : Nat) (l79 : List (List S32)) : Nat → Int → Option Bool
 | 0, _ => none
 | n + 1, a0 => if a0 < (l79.length : Int) then (if 0 ≤ a0 then (if ((l79.getD a0.toNat []).length : Int) > 40 then (some false) else (confidanthelp_SmallImage.l0 K l79 n (IntKind.i64.wrap (a0 + 1)))) else none) else (some true)
def confidanthelp_SmallImage.f (K : Nat) (l79 : List (List S32)) : Option Bool := if (l79.length : Int) > 8 then (some false) else (confidanthelp_SmallImage.l0 K l79 K 0)
set_option maxRecDepth 100000 in
theorem confidanthelp_SmallImage.calls {K : Nat} {l79 : List (List S32)} {A80 : Option Addr} {C81 : Nat} {a6 : Bool} {B w : World} {os : List Ass} {rs : List Ro} (H : confidanthelp_SmallImage.f K l79 = some a6) (hS : St B w (os) (Ro.sl (Kd.slice kS32) A80 C81 l79 :: rs)) :
  Calls Try.prog 13 [sv A80 C81 l79].toArray w (fun en w' => ∃ v, en = .returned v ∧ v = .bool (a6) ∧ St B w' (os) (Ro.sl (Kd.slice kS32) A80 C81 l79 :: rs)) := by
 unfold confidanthelp_SmallImage.f at H
 refine calls_of_EW (args := [sv A80 C81 l79]) (c := Cd13) 19 Try.func13 (by kernel_rfl) (by kernel_rfl) (by kernel_rfl) ?_
 refine EW.sq (by kernel_rfl) ?_
 refine EW.rg (by kernel_rfl) ?_
 refine EL.quick 1 [0] [(0, sv A80 C81 l79)] (by kernel_rfl) ?_
 refine EL.done (by kernel_rfl) ?_
 refine EQ.code ?_
 refine EW.sq (by kernel_rfl) ?_
 refine EW.sq (by kernel_rfl) ?_
 refine EW.rg (by kernel_rfl) ?_
 refine EL.quick 3 [0, 6] [(0, sv A80 C81 l79), (6, .bool (decide ((l79.length : Int) > 8)))] (by kernel_rfl) ?_
 refine EL.done (by kernel_rfl) ?_
 refine EQ.code ?_
 refine EW.cdP ((l79.length : Int) > 8) (by kernel_rfl) (by kernel_rfl) (fun a3 => ?_) (fun a3 => ?_)
 ·rw [if_pos a3] at H
  refine EW.sq (by kernel_rfl) ?_
  refine EW.rg (by kernel_rfl) ?_
  refine EL.quick 1 [2] [(2, .bool (false))] (by kernel_rfl) ?_
  refine EL.done (by kernel_rfl) ?_
  refine EQ.code ?_
  refine EW.ret (by kernel_rfl) ?_
  refine EQ.ret ?_
  obtain rfl := Option.some.inj H
  exact EQ.leave (.bool (false)) (by kernel_rfl) ⟨_, rfl, rfl, (hS.re [] [] rfl (sub_self))⟩
 rw [if_neg a3] at H
 refine EW.skip (by kernel_rfl) ?_
 refine EQ.code ?_
 refine EW.sq (by kernel_rfl) ?_
 refine EW.sq (by kernel_rfl) ?_
 refine EW.rg (by kernel_rfl) ?_
 refine EL.quick 1 [0, 3] [(0, sv A80 C81 l79), (3, ia 0)] (by kernel_rfl) ?_
 refine EL.done (by kernel_rfl) ?_
 refine EQ.code ?_
 refine EW.bl 0 (by kernel_rfl) ?_
 refine EW.lp (fun n a w => ∃ a0 : Int, Sat 19 [(0, sv A80 C81 l79), (3, ia a0)] a ∧ St B w (os) (Ro.sl (Kd.slice kS32) A80 C81 l79 :: rs) ∧ confidanthelp_SmallImage.l0 K l79 n a0 = some a6) K (by kernel_rfl) ?_ (fun n a w hI => ?_)
 ·refine EQ.keep [0, 3] [(0, sv A80 C81 l79), (3, ia 0)] (by kernel_rfl) ?_
  exact fun a ha => ⟨0, ha, (hS.re [] [] rfl (sub_cons 0 rfl (sub_tail (sub_self)))), H⟩
 obtain ⟨a0, ha, hS, H⟩ := hI
 obtain _ | n := n
 ·simp [confidanthelp_SmallImage.l0] at H
 rw [confidanthelp_SmallImage.l0.eq_2] at H
 refine EW.at ?_ a ha
 clear ha a
 refine EW.sq (by kernel_rfl) ?_
 refine EW.sq (by kernel_rfl) ?_
 refine EW.rg (by kernel_rfl) ?_
 refine EL.quick 4 [0, 3, 10] [(0, sv A80 C81 l79), (3, ia a0), (10, .bool (decide (a0 < (l79.length : Int))))] (by kernel_rfl) ?_
 refine EL.done (by kernel_rfl) ?_
 refine EQ.code ?_
 refine EW.cdP (a0 < (l79.length : Int)) (by kernel_rfl) (by kernel_rfl) (fun a1 => ?_) (fun a1 => ?_)
 ·rw [if_pos a1] at H
  refine EW.skip (by kernel_rfl) ?_
  refine EQ.code ?_
  refine EW.sq (by kernel_rfl) ?_
  refine EW.bl 1 (by kernel_rfl) ?_
  refine EW.sq (by kernel_rfl) ?_
  refine EW.rg (by kernel_rfl) ?_
  refine EL.quick 2 [0, 3, 13, 14] [(0, sv A80 C81 l79), (3, ia a0), (13, sv A80 C81 l79), (14, ia a0)] (by kernel_rfl) ?_
  obtain ⟨a4, H⟩ := ite_in H
  obtain ⟨a2, rfl⟩ := St.rd_some hS (Rd.ro 0 rfl) a4 a1
  refine EL.of (EO.Y (YO.idx 23 1 a2 l79.length C81 .i64 a0 15 (by kernel_rfl) (by kernel_rfl) (by kernel_rfl) (by kernel_rfl) a4 a1) ?_)
  refine EL.of (EO.loadSl hS kS32 a2 C81 l79 (Rd.ro 0 rfl) a0 a4 a1 29 16 (by kernel_rfl) (by kernel_rfl) (by kernel_rfl) (by kernel_rfl) ?_)
  intro a7 a8 hS
  refine EL.quick 2 [0, 3, 18] [(0, sv (some a2) C81 l79), (3, ia a0), (18, .bool (decide (((l79.getD a0.toNat []).length : Int) > 40)))] (by kernel_rfl) ?_
  refine EL.done (by kernel_rfl) ?_
  refine EQ.code ?_
  refine EW.cdP (((l79.getD a0.toNat []).length : Int) > 40) (by kernel_rfl) (by kernel_rfl) (fun a5 => ?_) (fun a5 => ?_)
  ·rw [if_pos a5] at H
   refine EW.sq (by kernel_rfl) ?_
   refine EW.rg (by kernel_rfl) ?_
   refine EL.quick 1 [2] [(2, .bool (false))] (by kernel_rfl) ?_
   refine EL.done (by kernel_rfl) ?_
   refine EQ.code ?_
   refine EW.ret (by kernel_rfl) ?_
   refine EQ.ret ?_
   refine EQ.ret ?_
   refine EQ.ret ?_
   refine EQ.ret ?_
   refine EQ.ret ?_
   obtain rfl := Option.some.inj H
   exact EQ.leave (.bool (false)) (by kernel_rfl) ⟨_, rfl, rfl, (hS.re [] [] rfl (sub_tail (sub_self)))⟩
  rw [if_neg a5] at H
  refine EW.skip (by kernel_rfl) ?_
  refine EQ.pop ?_
  refine EQ.code ?_
  refine EW.rg (by kernel_rfl) ?_
  refine EL.quick 3 [0, 3] [(0, sv (some a2) C81 l79), (3, ia (IntKind.i64.wrap (a0 + 1)))] (by kernel_rfl) ?_
  refine EL.done (by kernel_rfl) ?_
  refine EQ.to ?_
  refine EQ.keep [0, 3] [(0, sv (some a2) C81 l79), (3, ia (IntKind.i64.wrap (a0 + 1)))] (by kernel_rfl) ?_
  exact fun a ha => ⟨n, Nat.lt_succ_self n, IntKind.i64.wrap (a0 + 1), ha, (hS.re [] [] rfl (sub_cons 1 rfl (sub_tail (sub_tail (sub_self))))), H⟩
 rw [if_neg a1] at H
 refine EW.exit (id := 0) (by kernel_rfl) ?_
 refine EQ.exitCode ?_
 refine EQ.exitTo ?_
 refine EQ.exitHere ?_
 refine EQ.code ?_
 refine EW.sq (by kernel_rfl) ?_
 refine EW.rg (by kernel_rfl) ?_
 refine EL.quick 1 [2] [(2, .bool (true))] (by kernel_rfl) ?_
 refine EL.done (by kernel_rfl) ?_
 refine EQ.code ?_
 refine EW.ret (by kernel_rfl) ?_
 obtain rfl := Option.some.inj H
 exact EQ.leave (.bool (true)) (by kernel_rfl) ⟨_, rfl, rfl, (hS.re [] [] rfl (sub_self))⟩

/-! ### confidant/confidantlaw10.some: function 27 -/
def confidantlaw10_some.l0 (K : Nat) (a0 : List Int) (d6 : (List Int) → Int → Int → Int → Int → Option S58) : Nat → (List Int) → Int → Int → Int → Int → Int → Option S58
 | 0, _, _, _, _, _, _ => none
 | n + 1, c0, b0, b1, b2, b3, a1 => lt (fun (e0 : Bool) => (if e0 = true then (lt (fun (f2 : List Int) (d8 : List Int) (e1 : Int) (e2 : Int) (e3 : Int) (e4 : Int) => (confidantlaw10_some.l0 K a0 d6 n d8 e1 e2 e3 e4 (IntKind.i64.wrap (a1 + 1)))) fun d9 => (if 0 ≤ a1 then (if a1 < (a0.length : Int) then (lt ([IntKind.i32.wrap ((IntKind.i32.wrap (a0.getD a1.toNat 0)) - (IntKind.i32.wrap ((IntKind.i32.wrap (Int.tmod (a0.getD a1.toNat 0) 3)) * 90)))] : List Int) fun b4 => (if (c0.length + b4.length) * 4 ≤ 140737488355328 then (lt (c0 ++ b4) fun a9 => (if (Int.tmod a1 4) = 0 then (d9 b4 a9 (IntKind.i32.wrap (b0 + (IntKind.i32.wrap (a0.getD a1.toNat 0)))) b1 b2 b3) else (if (Int.tmod a1 4) = 1 then (d9 b4 a9 b0 (IntKind.i32.wrap (b1 + (IntKind.i32.wrap (a0.getD a1.toNat 0)))) b2 b3) else (if (Int.tmod a1 4) = 2 then (d9 b4 a9 b0 b1 (IntKind.i32.wrap (b2 + (IntKind.i32.wrap (a0.getD a1.toNat 0)))) b3) else (if (Int.tmod a1 4) = 3 then (d9 b4 a9 b0 b1 b2 (IntKind.i32.wrap (b3 + (IntKind.i32.wrap (a0.getD a1.toNat 0))))) else (none)))))) else none)) else none) else none)) else (d6 c0 b0 b1 b2 b3))) fun f1 => (if a1 < (a0.length : Int) then (f1 (decide (a1 < 12))) else (f1 false))
def confidantlaw10_some.f (K : Nat) (a6 : Int) (a7 : Int) (a8 : Int) (a0 : List Int) : Option S58 := lt (fun (c3 : List Int) (c8 : Int) (c9 : Int) (d0 : Int) (d1 : Int) => (some (⟨IntKind.i32.wrap a6, IntKind.i64.wrap (Int.tmod a6 3), IntKind.i64.wrap (Int.tmod a7 20), c3, (⟨c8, c9, d0, d1⟩ : S55), IntKind.i64.wrap (Int.tmod a8 4), IntKind.i64.wrap (Int.tmod (IntKind.u8.wrap (Int.tdiv a8 4)) 4), 0, IntKind.i64.wrap (Int.tmod a7 3)⟩ : S58))) fun d6 => (confidantlaw10_some.l0 K a0 d6 K ([] : List Int) 0 0 0 0 0)
set_option maxRecDepth 100000 in
theorem confidantlaw10_some.calls {K : Nat} {a6 : Int} {a7 : Int} {a8 : Int} {a0 : List Int} {b7 : Option Addr} {a3 : Nat} {d7 : S58} {B w : World} {os : List Ass} {rs : List Ro} (H : confidantlaw10_some.f K a6 a7 a8 a0 = some d7) (hS : St B w (os) (Ro.sl (Kd.int .u8) b7 a3 a0 :: rs)) :
  Calls Try.prog 27 [ig a6, ig a7, ig a8, sv b7 a3 a0].toArray w (fun en w' => ∃ v, en = .returned v ∧ ∃ f9 : Option Addr, ∃ g1 : Nat, v = ag (cellsS58 d7 (f9, g1)) ∧ St B w' (os) (Ro.sl (Kd.int .i32) f9 g1 d7.f3 :: Ro.sl (Kd.int .u8) b7 a3 a0 :: rs)) := by
 unfold confidantlaw10_some.f at H
 refine calls_of_EW (args := [ig a6, ig a7, ig a8, sv b7 a3 a0]) (c := Cd27) 72 Try.func27 (by kernel_rfl) (by kernel_rfl) (by kernel_rfl) ?_
 refine EW.sq (by kernel_rfl) ?_
 refine EW.rg (by kernel_rfl) ?_
 refine EL.of (EO.alloc hS 58 (ag (cellsS58 zS58 (none, 0))) (cellsS58 zS58 (none, 0)) 8 (by kernel_rfl) (by kernel_rfl) (by kernel_rfl) (by kernel_rfl) (by first | rfl | kernel_rfl) ?_)
 intro a4 w hS
 refine EL.done (by kernel_rfl) ?_
 refine EQ.code ?_
 refine EW.sq (by kernel_rfl) ?_
 refine EW.rg (by kernel_rfl) ?_
 refine EL.quick 19 [3, 8, 29] [(3, sv b7 a3 a0), (8, pt a4 0), (29, ag [ib (IntKind.i32.wrap a6), ia (IntKind.i64.wrap (Int.tmod a6 3)), ia (IntKind.i64.wrap (Int.tmod a7 20)), sv none 0 ([] : List Int), ib 0, ib 0, ib 0, ib 0, ia (IntKind.i64.wrap (Int.tmod a8 4)), ia (IntKind.i64.wrap (Int.tmod (IntKind.u8.wrap (Int.tdiv a8 4)) 4)), ie 0, ia (IntKind.i64.wrap (Int.tmod a7 3))])] (by kernel_rfl) ?_
 refine EL.of (EO.alloc hS 58 (ag (cellsS58 zS58 (none, 0))) (cellsS58 zS58 (none, 0)) 9 (by kernel_rfl) (by kernel_rfl) (by kernel_rfl) (by kernel_rfl) (by first | rfl | kernel_rfl) ?_)
 intro a2 w hS
 refine EL.of (EO.storeBox (os' := Ass.box 58 a2 [ib (IntKind.i32.wrap a6), ia (IntKind.i64.wrap (Int.tmod a6 3)), ia (IntKind.i64.wrap (Int.tmod a7 20)), sv none 0 ([] : List Int), ib 0, ib 0, ib 0, ib 0, ia (IntKind.i64.wrap (Int.tmod a8 4)), ia (IntKind.i64.wrap (Int.tmod (IntKind.u8.wrap (Int.tdiv a8 4)) 4)), ie 0, ia (IntKind.i64.wrap (Int.tmod a7 3))] :: Ass.box 58 a4 (cellsS58 zS58 (none, 0)) :: os) hS 0 rfl 58 0 (ag [ib (IntKind.i32.wrap a6), ia (IntKind.i64.wrap (Int.tmod a6 3)), ia (IntKind.i64.wrap (Int.tmod a7 20)), sv none 0 ([] : List Int), ib 0, ib 0, ib 0, ib 0, ia (IntKind.i64.wrap (Int.tmod a8 4)), ia (IntKind.i64.wrap (Int.tmod (IntKind.u8.wrap (Int.tdiv a8 4)) 4)), ie 0, ia (IntKind.i64.wrap (Int.tmod a7 3))]) [ib (IntKind.i32.wrap a6), ia (IntKind.i64.wrap (Int.tmod a6 3)), ia (IntKind.i64.wrap (Int.tmod a7 20)), sv none 0 ([] : List Int), ib 0, ib 0, ib 0, ib 0, ia (IntKind.i64.wrap (Int.tmod a8 4)), ia (IntKind.i64.wrap (Int.tmod (IntKind.u8.wrap (Int.tdiv a8 4)) 4)), ie 0, ia (IntKind.i64.wrap (Int.tmod a7 3))] (by kernel_rfl) (by kernel_rfl) (by kernel_rfl) (by kernel_rfl) (by kernel_rfl) (by kernel_rfl) rfl rfl ?_)
 intro w hS
 refine EL.done (by kernel_rfl) ?_
 refine EQ.code ?_
 obtain ⟨d6, g5, H⟩ := lt_out H
 refine EW.ct (fun a w => ∃ c3 : List Int, ∃ c8 : Int, ∃ c9 : Int, ∃ d0 : Int, ∃ d1 : Int, ∃ c6 : Option Addr, ∃ c7 : Nat, Sat 72 [(8, pt a4 0), (9, pt a2 0)] a ∧ St B w (Ass.box 58 a2 [ib (IntKind.i32.wrap a6), ia (IntKind.i64.wrap (Int.tmod a6 3)), ia (IntKind.i64.wrap (Int.tmod a7 20)), sv c6 c7 c3, ib c8, ib c9, ib d0, ib d1, ia (IntKind.i64.wrap (Int.tmod a8 4)), ia (IntKind.i64.wrap (Int.tmod (IntKind.u8.wrap (Int.tdiv a8 4)) 4)), ie 0, ia (IntKind.i64.wrap (Int.tmod a7 3))] :: Ass.box 58 a4 (cellsS58 zS58 (none, 0)) :: Ass.own 21 (Kd.int .i32) c6 c7 c3 :: os) (Ro.sl (Kd.int .u8) b7 a3 a0 :: rs) ∧ d6 c3 c8 c9 d0 d1 = some d7) (by kernel_rfl) ?_ (fun a w hI => ?_)
 ·refine EW.sq (by kernel_rfl) ?_
  refine EW.rg (by kernel_rfl) ?_
  refine EL.quick 1 [3, 8, 9, 10] [(3, sv b7 a3 a0), (8, pt a4 0), (9, pt a2 0), (10, ia 0)] (by kernel_rfl) ?_
  refine EL.done (by kernel_rfl) ?_
  refine EQ.code ?_
  refine EW.bl 0 (by kernel_rfl) ?_
  have hS := St.nilO hS 21 (Kd.int .i32)
  refine EW.lp (fun n a w => ∃ c0 : List Int, ∃ b0 : Int, ∃ b1 : Int, ∃ b2 : Int, ∃ b3 : Int, ∃ a1 : Int, ∃ c4 : Option Addr, ∃ c5 : Nat, Sat 72 [(3, sv b7 a3 a0), (8, pt a4 0), (9, pt a2 0), (10, ia a1)] a ∧ St B w (Ass.box 58 a2 [ib (IntKind.i32.wrap a6), ia (IntKind.i64.wrap (Int.tmod a6 3)), ia (IntKind.i64.wrap (Int.tmod a7 20)), sv c4 c5 c0, ib b0, ib b1, ib b2, ib b3, ia (IntKind.i64.wrap (Int.tmod a8 4)), ia (IntKind.i64.wrap (Int.tmod (IntKind.u8.wrap (Int.tdiv a8 4)) 4)), ie 0, ia (IntKind.i64.wrap (Int.tmod a7 3))] :: Ass.box 58 a4 (cellsS58 zS58 (none, 0)) :: Ass.own 21 (Kd.int .i32) c4 c5 c0 :: os) (Ro.sl (Kd.int .u8) b7 a3 a0 :: rs) ∧ confidantlaw10_some.l0 K a0 d6 n c0 b0 b1 b2 b3 a1 = some d7) K (by kernel_rfl) ?_ (fun n a w hI => ?_)
  ·refine EQ.keep [3, 8, 9, 10] [(3, sv b7 a3 a0), (8, pt a4 0), (9, pt a2 0), (10, ia 0)] (by kernel_rfl) ?_
   exact fun a ha => ⟨([] : List Int), 0, 0, 0, 0, 0, none, 0, ha, (hS.re [0, 2, 2] [] rfl (sub_cons 0 rfl (sub_tail (sub_self)))), H⟩
  obtain ⟨c0, b0, b1, b2, b3, a1, c4, c5, ha, hS, H⟩ := hI
  obtain _ | n := n
  ·simp [confidantlaw10_some.l0] at H
  rw [confidantlaw10_some.l0.eq_2] at H
  refine EW.at ?_ a ha
  clear ha a
  refine EW.sq (by kernel_rfl) ?_
  obtain ⟨f1, g6, H⟩ := lt_out H
  refine EW.ct (fun a w => ∃ e0 : Bool, Sat 72 [(3, sv b7 a3 a0), (8, pt a4 0), (9, pt a2 0), (10, ia a1), (37, .bool (e0))] a ∧ St B w (Ass.box 58 a2 [ib (IntKind.i32.wrap a6), ia (IntKind.i64.wrap (Int.tmod a6 3)), ia (IntKind.i64.wrap (Int.tmod a7 20)), sv c4 c5 c0, ib b0, ib b1, ib b2, ib b3, ia (IntKind.i64.wrap (Int.tmod a8 4)), ia (IntKind.i64.wrap (Int.tmod (IntKind.u8.wrap (Int.tdiv a8 4)) 4)), ie 0, ia (IntKind.i64.wrap (Int.tmod a7 3))] :: Ass.box 58 a4 (cellsS58 zS58 (none, 0)) :: Ass.own 21 (Kd.int .i32) c4 c5 c0 :: os) (Ro.sl (Kd.int .u8) b7 a3 a0 :: rs) ∧ f1 e0 = some d7) (by kernel_rfl) ?_ (fun a w hI => ?_)
  ·refine EW.rg (by kernel_rfl) ?_
   refine EL.quick 5 [3, 8, 9, 10, 34] [(3, sv b7 a3 a0), (8, pt a4 0), (9, pt a2 0), (10, ia a1), (34, .bool (decide (a1 < (a0.length : Int))))] (by kernel_rfl) ?_
   by_cases e9 : a1 < (a0.length : Int)
   ·rw [if_pos e9] at H
    refine EL.keep [3, 8, 9, 10, 34] [(3, sv b7 a3 a0), (8, pt a4 0), (9, pt a2 0), (10, ia a1), (34, .bool (decide (a1 < (a0.length : Int))))] (by kernel_rfl) ?_
    refine EL.as' [(3, sv b7 a3 a0), (8, pt a4 0), (9, pt a2 0), (10, ia a1), (34, .bool (true))] (by simp only [cellsS58, dec_t e9, Bool.not_true, Bool.not_false]) ?_
    refine EL.quick 3 [3, 8, 9, 10, 35, 36, 37] [(3, sv b7 a3 a0), (8, pt a4 0), (9, pt a2 0), (10, ia a1), (35, ia a1), (36, .bool (decide (a1 < 12))), (37, .bool (decide (a1 < 12)))] (by kernel_rfl) ?_
    refine EL.done (by kernel_rfl) ?_
    refine EQ.to ?_
    refine EQ.keep [3, 8, 9, 10, 37] [(3, sv b7 a3 a0), (8, pt a4 0), (9, pt a2 0), (10, ia a1), (37, .bool (decide (a1 < 12)))] (by kernel_rfl) ?_
    exact fun a ha => ⟨decide (a1 < 12), ha, (hS.re [2, 2, 2] [] rfl (sub_cons 0 rfl (sub_tail (sub_self)))), H⟩
   rw [if_neg e9] at H
   refine EL.keep [3, 8, 9, 10, 34] [(3, sv b7 a3 a0), (8, pt a4 0), (9, pt a2 0), (10, ia a1), (34, .bool (decide (a1 < (a0.length : Int))))] (by kernel_rfl) ?_
   refine EL.as' [(3, sv b7 a3 a0), (8, pt a4 0), (9, pt a2 0), (10, ia a1), (34, .bool (false))] (by simp only [cellsS58, dec_f e9, Bool.not_true, Bool.not_false]) ?_
   refine EL.quick 3 [3, 8, 9, 10, 37] [(3, sv b7 a3 a0), (8, pt a4 0), (9, pt a2 0), (10, ia a1), (37, .bool (false))] (by kernel_rfl) ?_
   refine EL.done (by kernel_rfl) ?_
   refine EQ.to ?_
   refine EQ.keep [3, 8, 9, 10, 37] [(3, sv b7 a3 a0), (8, pt a4 0), (9, pt a2 0), (10, ia a1), (37, .bool (false))] (by kernel_rfl) ?_
   exact fun a ha => ⟨false, ha, (hS.re [2, 2, 2] [] rfl (sub_cons 0 rfl (sub_tail (sub_self)))), H⟩
  obtain ⟨e0, ha, hS, H⟩ := hI
  rw [g6] at H
  (try dsimp only at H)
  refine EW.at ?_ a ha
  clear ha a
  refine EW.cdP' (e0) (by kernel_rfl) (by kernel_rfl) (fun f4 => ?_) (fun f4 => ?_)
  ·rw [if_pos f4] at H
   refine EW.skip (by kernel_rfl) ?_
   refine EQ.code ?_
   obtain ⟨d9, g7, H⟩ := lt_out H
   refine EW.ct (fun a w => ∃ f2 : List Int, ∃ d8 : List Int, ∃ e1 : Int, ∃ e2 : Int, ∃ e3 : Int, ∃ e4 : Int, ∃ g0 : Option Addr, ∃ g2 : Nat, ∃ e5 : Option Addr, ∃ e6 : Nat, Sat 72 [(3, sv b7 a3 a0), (8, pt a4 0), (9, pt a2 0), (10, ia a1)] a ∧ St B w (Ass.own 21 (Kd.int .i32) g0 g2 f2 :: Ass.box 58 a2 [ib (IntKind.i32.wrap a6), ia (IntKind.i64.wrap (Int.tmod a6 3)), ia (IntKind.i64.wrap (Int.tmod a7 20)), sv e5 e6 d8, ib e1, ib e2, ib e3, ib e4, ia (IntKind.i64.wrap (Int.tmod a8 4)), ia (IntKind.i64.wrap (Int.tmod (IntKind.u8.wrap (Int.tdiv a8 4)) 4)), ie 0, ia (IntKind.i64.wrap (Int.tmod a7 3))] :: Ass.box 58 a4 (cellsS58 zS58 (none, 0)) :: Ass.own 21 (Kd.int .i32) e5 e6 d8 :: os) (Ro.sl (Kd.int .u8) b7 a3 a0 :: rs) ∧ d9 f2 d8 e1 e2 e3 e4 = some d7) (by kernel_rfl) ?_ (fun a w hI => ?_)
   ·refine EW.bl 1 (by kernel_rfl) ?_
    refine EW.sq (by kernel_rfl) ?_
    obtain ⟨c1, H⟩ := ite_in H
    obtain ⟨c2, H⟩ := ite_in H
    obtain ⟨a5, rfl⟩ := St.rd_some hS (Rd.ro 0 rfl) c1 c2
    obtain ⟨b4, f0, H⟩ := lt_out H
    obtain ⟨g3, H⟩ := ite_in H
    obtain ⟨a9, g4, H⟩ := lt_out H
    refine EW.mt (fun a w => ∃ b8 : Option Addr, ∃ b9 : Nat, ∃ b5 : Option Addr, ∃ b6 : Nat, Sat 72 [(3, sv (some a5) a3 a0), (8, pt a4 0), (9, pt a2 0), (10, ia a1)] a ∧ St B w (Ass.own 21 (Kd.int .i32) b8 b9 b4 :: Ass.box 58 a2 [ib (IntKind.i32.wrap a6), ia (IntKind.i64.wrap (Int.tmod a6 3)), ia (IntKind.i64.wrap (Int.tmod a7 20)), sv b5 b6 a9, ib b0, ib b1, ib b2, ib b3, ia (IntKind.i64.wrap (Int.tmod a8 4)), ia (IntKind.i64.wrap (Int.tmod (IntKind.u8.wrap (Int.tdiv a8 4)) 4)), ie 0, ia (IntKind.i64.wrap (Int.tmod a7 3))] :: Ass.box 58 a4 (cellsS58 zS58 (none, 0)) :: Ass.own 21 (Kd.int .i32) b5 b6 a9 :: os) (Ro.sl (Kd.int .u8) (some a5) a3 a0 :: rs)) (by kernel_rfl) ?_ (fun a w hI => ?_)
    ·have hS := hS.drew
     refine EW.dr (B := B) [Ass.box 58 a4 (cellsS58 zS58 (none, 0))] [Ro.sl (Kd.int .u8) (some a5) a3 a0] (by kernel_rfl) (by kernel_rfl) ?_
     have hN : Region.noSelect Cd27.r.r.l.r.l.l.r.l.l.l.ops = true := (by kernel_rfl)
     have hF : freeAll Cd27.r.r.l.r.l.l.r.l.l.l.ops = true := (by kernel_rfl)
     have hC : Core B [Ass.box 58 a4 (cellsS58 zS58 (none, 0))] [Ro.sl (Kd.int .u8) (some a5) a3 a0] _ := ⟨_, _, hS.re [1] [] rfl sub_self⟩
     refine ED.quick hN hF hC [0, 2, 3, 7, 8] [3, 8, 9, 10, 40, 42, 43, 47, 48] 14 [(3, sv (some a5) a3 a0), (8, pt a4 0), (9, pt a2 0), (10, ia a1), (40, pt a2 3), (42, sv (some a5) a3 a0), (43, ia a1), (47, sv (some a5) a3 a0), (48, ia a1)] (bm 19 397) (by kernel_rfl) (by kernel_rfl) ?_
     refine ED.Y hN hF hC 4 13 (bm 19 413) (by kernel_rfl) (by kernel_rfl) rfl (fun _ _ _ hS => YO.idx 25 1 a5 a0.length a3 .i64 a1 44 (by kernel_rfl) (by kernel_rfl) (by kernel_rfl) (by kernel_rfl) c1 c2) ?_
     refine ED.Y hN hF hC 5 12 (bm 19 445) (by kernel_rfl) (by kernel_rfl) rfl (fun _ _ _ hS => YO.loadEl hS (Kd.int .u8) a5 a3 a0 (Rd.ro 0 rfl) 0 (encI .u8) encI_of a1 c1 c2 5 1 0 1 rfl (ig (a0.getD a1.toNat 0)) 45 (by kernel_rfl) (by kernel_rfl) (by kernel_rfl) (by kernel_rfl)) ?_
     refine ED.quick hN hF hC [6] [3, 8, 9, 10, 40, 46, 47, 48] 11 [(3, sv (some a5) a3 a0), (8, pt a4 0), (9, pt a2 0), (10, ia a1), (40, pt a2 3), (46, ib (IntKind.i32.wrap (a0.getD a1.toNat 0))), (47, sv (some a5) a3 a0), (48, ia a1)] (bm 19 509) (by kernel_rfl) (by kernel_rfl) ?_
     refine ED.Y hN hF hC 9 10 (bm 19 1021) (by kernel_rfl) (by kernel_rfl) rfl (fun _ _ _ hS => YO.idx 25 1 a5 a0.length a3 .i64 a1 49 (by kernel_rfl) (by kernel_rfl) (by kernel_rfl) (by kernel_rfl) c1 c2) ?_
     refine ED.Y hN hF hC 10 9 (bm 19 2045) (by kernel_rfl) (by kernel_rfl) rfl (fun _ _ _ hS => YO.loadEl hS (Kd.int .u8) a5 a3 a0 (Rd.ro 0 rfl) 0 (encI .u8) encI_of a1 c1 c2 5 1 0 1 rfl (ig (a0.getD a1.toNat 0)) 50 (by kernel_rfl) (by kernel_rfl) (by kernel_rfl) (by kernel_rfl)) ?_
     refine ED.quick hN hF hC [11, 12, 13, 14] [3, 8, 9, 10, 40, 54] 5 [(3, sv (some a5) a3 a0), (8, pt a4 0), (9, pt a2 0), (10, ia a1), (40, pt a2 3), (54, ib (IntKind.i32.wrap ((IntKind.i32.wrap (a0.getD a1.toNat 0)) - (IntKind.i32.wrap ((IntKind.i32.wrap (Int.tmod (a0.getD a1.toNat 0) 3)) * 90)))))] (bm 19 32765) (by kernel_rfl) (by kernel_rfl) ?_
     refine ED.two 1 15 4 (by kernel_rfl) (by kernel_rfl) ?_ ?_
     ·refine EO.Y (YO.loadBox hS 0 rfl 54 3 1 (sv c4 c5 c0) 41 (by kernel_rfl) (by kernel_rfl) (by kernel_rfl) (by kernel_rfl)) ?_
      have hC := hC.again ⟨_, _, hS.re [1] [] rfl sub_self⟩
      refine ⟨hC, ?_⟩
      refine ED.at' (bm 19 32767) (by kernel_rfl) ?_
      refine ED.one 15 3 (bm 19 65535) (by kernel_rfl) (by kernel_rfl) (by kernel_rfl) (EO.lit hS (Kd.int .i32) 21 54 1 #[(0, ib (IntKind.i32.wrap ((IntKind.i32.wrap (a0.getD a1.toNat 0)) - (IntKind.i32.wrap ((IntKind.i32.wrap (Int.tmod (a0.getD a1.toNat 0) 3)) * 90)))))] [ib (IntKind.i32.wrap ((IntKind.i32.wrap (a0.getD a1.toNat 0)) - (IntKind.i32.wrap ((IntKind.i32.wrap (Int.tmod (a0.getD a1.toNat 0) 3)) * 90))))] b4 55 (by kernel_rfl) (by kernel_rfl) (by kernel_rfl) (fun _ => (by kernel_rfl)) (by rw [f0]; rfl) (by kernel_rfl) (fun w G hr => (by rw [f0]; exact ⟨[ib (IntKind.i32.wrap ((IntKind.i32.wrap (a0.getD a1.toNat 0)) - (IntKind.i32.wrap ((IntKind.i32.wrap (Int.tmod (a0.getD a1.toNat 0) 3)) * 90))))], [], rfl, rfl, rfl⟩)) ?_)
      intro e7 w hS
      have hC := hC.again ⟨_, _, hS.re [2] [] rfl sub_self⟩
      refine ⟨hC, ?_⟩
      refine ED.one 16 2 (bm 19 131071) (by kernel_rfl) (by kernel_rfl) (by kernel_rfl) (EO.append hS 54 54 21 4 3 (Kd.int .i32) c4 c5 c0 rfl (some ⟨e7, 0, none⟩) 1 b4 (Rd.own 0 21 rfl) a9 g4 (fun d2 d4 => Ass.own 21 (Kd.int .i32) (some ⟨e7, 0, none⟩) 1 b4 :: Ass.box 58 a2 [ib (IntKind.i32.wrap a6), ia (IntKind.i64.wrap (Int.tmod a6 3)), ia (IntKind.i64.wrap (Int.tmod a7 20)), sv c4 c5 c0, ib b0, ib b1, ib b2, ib b3, ia (IntKind.i64.wrap (Int.tmod a8 4)), ia (IntKind.i64.wrap (Int.tmod (IntKind.u8.wrap (Int.tdiv a8 4)) 4)), ie 0, ia (IntKind.i64.wrap (Int.tmod a7 3))] :: Ass.box 58 a4 (cellsS58 zS58 (none, 0)) :: Ass.own 21 (Kd.int .i32) d2 d4 a9 :: os) 56 (by kernel_rfl) (by kernel_rfl) (by kernel_rfl) (by kernel_rfl) g3 (fun _ _ => rfl) ?_)
      intro d2 d4 w hS
      have hC := hC.again ⟨_, _, hS.re [2] [] rfl sub_self⟩
      refine ⟨hC, ?_⟩
      refine ED.quick hN hF hC [17] [3, 8, 9, 10, 56, 57] 1 [(3, sv (some a5) a3 a0), (8, pt a4 0), (9, pt a2 0), (10, ia a1), (56, sv d2 d4 a9), (57, pt a2 3)] (bm 19 262143) (by kernel_rfl) (by kernel_rfl) ?_
      refine ED.one 18 0 (bm 19 524287) (by kernel_rfl) (by kernel_rfl) (by kernel_rfl) (EO.storeBox (os' := Ass.own 21 (Kd.int .i32) (some ⟨e7, 0, none⟩) 1 b4 :: Ass.box 58 a2 [ib (IntKind.i32.wrap a6), ia (IntKind.i64.wrap (Int.tmod a6 3)), ia (IntKind.i64.wrap (Int.tmod a7 20)), sv d2 d4 a9, ib b0, ib b1, ib b2, ib b3, ia (IntKind.i64.wrap (Int.tmod a8 4)), ia (IntKind.i64.wrap (Int.tmod (IntKind.u8.wrap (Int.tdiv a8 4)) 4)), ie 0, ia (IntKind.i64.wrap (Int.tmod a7 3))] :: Ass.box 58 a4 (cellsS58 zS58 (none, 0)) :: Ass.own 21 (Kd.int .i32) d2 d4 a9 :: os) hS 1 rfl 54 3 (sv d2 d4 a9) [ib (IntKind.i32.wrap a6), ia (IntKind.i64.wrap (Int.tmod a6 3)), ia (IntKind.i64.wrap (Int.tmod a7 20)), sv d2 d4 a9, ib b0, ib b1, ib b2, ib b3, ia (IntKind.i64.wrap (Int.tmod a8 4)), ia (IntKind.i64.wrap (Int.tmod (IntKind.u8.wrap (Int.tdiv a8 4)) 4)), ie 0, ia (IntKind.i64.wrap (Int.tmod a7 3))] (by kernel_rfl) (by kernel_rfl) (by kernel_rfl) (by kernel_rfl) (by kernel_rfl) (by kernel_rfl) rfl rfl ?_)
      intro w hS
      have hC := hC.again ⟨_, _, hS.re [2] [] rfl sub_self⟩
      refine ⟨hC, ?_⟩
      refine ED.done (by kernel_rfl) ?_
      refine EQ.to ?_
      refine EQ.keep [3, 8, 9, 10] [(3, sv (some a5) a3 a0), (8, pt a4 0), (9, pt a2 0), (10, ia a1)] (by kernel_rfl) ?_
      exact fun a ha => ⟨(some ⟨e7, 0, none⟩), 1, d2, d4, ha, (hS.re [3, 3, 3, 3] [] rfl (sub_cons 0 rfl (sub_tail (sub_self))))⟩
     ·refine EO.lit hS (Kd.int .i32) 21 54 1 #[(0, ib (IntKind.i32.wrap ((IntKind.i32.wrap (a0.getD a1.toNat 0)) - (IntKind.i32.wrap ((IntKind.i32.wrap (Int.tmod (a0.getD a1.toNat 0) 3)) * 90)))))] [ib (IntKind.i32.wrap ((IntKind.i32.wrap (a0.getD a1.toNat 0)) - (IntKind.i32.wrap ((IntKind.i32.wrap (Int.tmod (a0.getD a1.toNat 0) 3)) * 90))))] b4 55 (by kernel_rfl) (by kernel_rfl) (by kernel_rfl) (fun _ => (by kernel_rfl)) (by rw [f0]; rfl) (by kernel_rfl) (fun w G hr => (by rw [f0]; exact ⟨[ib (IntKind.i32.wrap ((IntKind.i32.wrap (a0.getD a1.toNat 0)) - (IntKind.i32.wrap ((IntKind.i32.wrap (Int.tmod (a0.getD a1.toNat 0) 3)) * 90))))], [], rfl, rfl, rfl⟩)) ?_
      intro e8 w hS
      have hC := hC.again ⟨_, _, hS.re [2] [] rfl sub_self⟩
      refine ⟨hC, ?_⟩
      refine ED.at' (bm 19 65533) (by kernel_rfl) ?_
      refine ED.one 1 3 (bm 19 65535) (by kernel_rfl) (by kernel_rfl) (by kernel_rfl) (EO.Y (YO.loadBox hS 1 rfl 54 3 1 (sv c4 c5 c0) 41 (by kernel_rfl) (by kernel_rfl) (by kernel_rfl) (by kernel_rfl)) ?_)
      have hC := hC.again ⟨_, _, hS.re [2] [] rfl sub_self⟩
      refine ⟨hC, ?_⟩
      refine ED.one 16 2 (bm 19 131071) (by kernel_rfl) (by kernel_rfl) (by kernel_rfl) (EO.append hS 54 54 21 4 3 (Kd.int .i32) c4 c5 c0 rfl (some ⟨e8, 0, none⟩) 1 b4 (Rd.own 0 21 rfl) a9 g4 (fun d3 d5 => Ass.own 21 (Kd.int .i32) (some ⟨e8, 0, none⟩) 1 b4 :: Ass.box 58 a2 [ib (IntKind.i32.wrap a6), ia (IntKind.i64.wrap (Int.tmod a6 3)), ia (IntKind.i64.wrap (Int.tmod a7 20)), sv c4 c5 c0, ib b0, ib b1, ib b2, ib b3, ia (IntKind.i64.wrap (Int.tmod a8 4)), ia (IntKind.i64.wrap (Int.tmod (IntKind.u8.wrap (Int.tdiv a8 4)) 4)), ie 0, ia (IntKind.i64.wrap (Int.tmod a7 3))] :: Ass.box 58 a4 (cellsS58 zS58 (none, 0)) :: Ass.own 21 (Kd.int .i32) d3 d5 a9 :: os) 56 (by kernel_rfl) (by kernel_rfl) (by kernel_rfl) (by kernel_rfl) g3 (fun _ _ => rfl) ?_)
      intro d3 d5 w hS
      have hC := hC.again ⟨_, _, hS.re [2] [] rfl sub_self⟩
      refine ⟨hC, ?_⟩
      refine ED.quick hN hF hC [17] [3, 8, 9, 10, 56, 57] 1 [(3, sv (some a5) a3 a0), (8, pt a4 0), (9, pt a2 0), (10, ia a1), (56, sv d3 d5 a9), (57, pt a2 3)] (bm 19 262143) (by kernel_rfl) (by kernel_rfl) ?_
      refine ED.one 18 0 (bm 19 524287) (by kernel_rfl) (by kernel_rfl) (by kernel_rfl) (EO.storeBox (os' := Ass.own 21 (Kd.int .i32) (some ⟨e8, 0, none⟩) 1 b4 :: Ass.box 58 a2 [ib (IntKind.i32.wrap a6), ia (IntKind.i64.wrap (Int.tmod a6 3)), ia (IntKind.i64.wrap (Int.tmod a7 20)), sv d3 d5 a9, ib b0, ib b1, ib b2, ib b3, ia (IntKind.i64.wrap (Int.tmod a8 4)), ia (IntKind.i64.wrap (Int.tmod (IntKind.u8.wrap (Int.tdiv a8 4)) 4)), ie 0, ia (IntKind.i64.wrap (Int.tmod a7 3))] :: Ass.box 58 a4 (cellsS58 zS58 (none, 0)) :: Ass.own 21 (Kd.int .i32) d3 d5 a9 :: os) hS 1 rfl 54 3 (sv d3 d5 a9) [ib (IntKind.i32.wrap a6), ia (IntKind.i64.wrap (Int.tmod a6 3)), ia (IntKind.i64.wrap (Int.tmod a7 20)), sv d3 d5 a9, ib b0, ib b1, ib b2, ib b3, ia (IntKind.i64.wrap (Int.tmod a8 4)), ia (IntKind.i64.wrap (Int.tmod (IntKind.u8.wrap (Int.tdiv a8 4)) 4)), ie 0, ia (IntKind.i64.wrap (Int.tmod a7 3))] (by kernel_rfl) (by kernel_rfl) (by kernel_rfl) (by kernel_rfl) (by kernel_rfl) (by kernel_rfl) rfl rfl ?_)
      intro w hS
      have hC := hC.again ⟨_, _, hS.re [2] [] rfl sub_self⟩
      refine ⟨hC, ?_⟩
      refine ED.done (by kernel_rfl) ?_
      refine EQ.to ?_
      refine EQ.keep [3, 8, 9, 10] [(3, sv (some a5) a3 a0), (8, pt a4 0), (9, pt a2 0), (10, ia a1)] (by kernel_rfl) ?_
      exact fun a ha => ⟨(some ⟨e8, 0, none⟩), 1, d3, d5, ha, (hS.re [3, 3, 3, 3] [] rfl (sub_cons 0 rfl (sub_tail (sub_self))))⟩
    ·obtain ⟨b8, b9, b5, b6, ha, hS⟩ := hI
     refine EQ.at ?_ a ha
     clear ha a
     refine EQ.code ?_
     by_cases f5 : (Int.tmod a1 4) = 0
     ·rw [if_pos f5] at H
      refine EW.keep [3, 8, 9, 10] [(3, sv (some a5) a3 a0), (8, pt a4 0), (9, pt a2 0), (10, ia a1)] (by kernel_rfl) ?_
      have hS := hS.drew
      refine EW.dr (B := B) [Ass.own 21 (Kd.int .i32) b8 b9 b4, Ass.box 58 a4 (cellsS58 zS58 (none, 0)), Ass.own 21 (Kd.int .i32) b5 b6 a9] [Ro.sl (Kd.int .u8) (some a5) a3 a0] (by kernel_rfl) (by kernel_rfl) ?_
      have hN : Region.noSelect Cd27.r.r.l.r.l.l.r.l.l.r.ops = true := (by kernel_rfl)
      have hF : freeAll Cd27.r.r.l.r.l.l.r.l.l.r.ops = true := (by kernel_rfl)
      have hC : Core B [Ass.own 21 (Kd.int .i32) b8 b9 b4, Ass.box 58 a4 (cellsS58 zS58 (none, 0)), Ass.own 21 (Kd.int .i32) b5 b6 a9] [Ro.sl (Kd.int .u8) (some a5) a3 a0] _ := ⟨_, _, hS.re [3, 3, 2] [] rfl sub_self⟩
      refine ED.quick hN hF hC [0, 1] [3, 8, 9, 10, 59] 12 [(3, sv (some a5) a3 a0), (8, pt a4 0), (9, pt a2 0), (10, ia a1), (59, ia (Int.tmod a1 4))] (bm 14 3) (by kernel_rfl) (by kernel_rfl) ?_
      refine ED.keep [3, 8, 9, 10, 59] [(3, sv (some a5) a3 a0), (8, pt a4 0), (9, pt a2 0), (10, ia a1), (59, ia (Int.tmod a1 4))] (by kernel_rfl) ?_
      refine ED.as' [(3, sv (some a5) a3 a0), (8, pt a4 0), (9, pt a2 0), (10, ia a1), (59, ia 0)] (by simp only [cellsS58, f5]) ?_
      refine ED.quick hN hF hC [2, 3, 5, 6, 11] [3, 8, 9, 10, 59, 61, 63, 64, 69] 7 [(3, sv (some a5) a3 a0), (8, pt a4 0), (9, pt a2 0), (10, ia a1), (59, ia 0), (61, pt a2 4), (63, sv (some a5) a3 a0), (64, ia a1), (69, pt a2 4)] (bm 14 2159) (by kernel_rfl) (by kernel_rfl) ?_
      refine ED.Y hN hF hC 7 6 (bm 14 2287) (by kernel_rfl) (by kernel_rfl) rfl (fun _ _ _ hS => YO.idx 25 1 a5 a0.length a3 .i64 a1 65 (by kernel_rfl) (by kernel_rfl) (by kernel_rfl) (by kernel_rfl) c1 c2) ?_
      refine ED.Y hN hF hC 8 5 (bm 14 2543) (by kernel_rfl) (by kernel_rfl) rfl (fun _ _ _ hS => YO.loadEl hS (Kd.int .u8) a5 a3 a0 (Rd.ro 0 rfl) 0 (encI .u8) encI_of a1 c1 c2 5 1 0 1 rfl (ig (a0.getD a1.toNat 0)) 66 (by kernel_rfl) (by kernel_rfl) (by kernel_rfl) (by kernel_rfl)) ?_
      refine ED.quick hN hF hC [9] [3, 8, 9, 10, 59, 61, 67, 69] 4 [(3, sv (some a5) a3 a0), (8, pt a4 0), (9, pt a2 0), (10, ia a1), (59, ia 0), (61, pt a2 4), (67, ib (IntKind.i32.wrap (a0.getD a1.toNat 0))), (69, pt a2 4)] (bm 14 3055) (by kernel_rfl) (by kernel_rfl) ?_
      refine ED.one 4 3 (bm 14 3071) (by kernel_rfl) (by kernel_rfl) (by kernel_rfl) (EO.Y (YO.loadBox hS 1 rfl 21 4 1 (ib b0) 62 (by kernel_rfl) (by kernel_rfl) (by kernel_rfl) (by kernel_rfl)) ?_)
      have hC := hC.again ⟨_, _, hS.re [3, 3, 2] [] rfl sub_self⟩
      refine ⟨hC, ?_⟩
      refine ED.quick hN hF hC [10, 12] [3, 8, 9, 10, 68, 70] 1 [(3, sv (some a5) a3 a0), (8, pt a4 0), (9, pt a2 0), (10, ia a1), (68, ib (IntKind.i32.wrap (b0 + (IntKind.i32.wrap (a0.getD a1.toNat 0))))), (70, pt a2 4)] (bm 14 8191) (by kernel_rfl) (by kernel_rfl) ?_
      refine ED.one 13 0 (bm 14 16383) (by kernel_rfl) (by kernel_rfl) (by kernel_rfl) (EO.storeBox (os' := Ass.own 21 (Kd.int .i32) b8 b9 b4 :: Ass.box 58 a2 [ib (IntKind.i32.wrap a6), ia (IntKind.i64.wrap (Int.tmod a6 3)), ia (IntKind.i64.wrap (Int.tmod a7 20)), sv b5 b6 a9, ib (IntKind.i32.wrap (b0 + (IntKind.i32.wrap (a0.getD a1.toNat 0)))), ib b1, ib b2, ib b3, ia (IntKind.i64.wrap (Int.tmod a8 4)), ia (IntKind.i64.wrap (Int.tmod (IntKind.u8.wrap (Int.tdiv a8 4)) 4)), ie 0, ia (IntKind.i64.wrap (Int.tmod a7 3))] :: Ass.box 58 a4 (cellsS58 zS58 (none, 0)) :: Ass.own 21 (Kd.int .i32) b5 b6 a9 :: os) hS 1 rfl 21 4 (ib (IntKind.i32.wrap (b0 + (IntKind.i32.wrap (a0.getD a1.toNat 0))))) [ib (IntKind.i32.wrap a6), ia (IntKind.i64.wrap (Int.tmod a6 3)), ia (IntKind.i64.wrap (Int.tmod a7 20)), sv b5 b6 a9, ib (IntKind.i32.wrap (b0 + (IntKind.i32.wrap (a0.getD a1.toNat 0)))), ib b1, ib b2, ib b3, ia (IntKind.i64.wrap (Int.tmod a8 4)), ia (IntKind.i64.wrap (Int.tmod (IntKind.u8.wrap (Int.tdiv a8 4)) 4)), ie 0, ia (IntKind.i64.wrap (Int.tmod a7 3))] (by kernel_rfl) (by kernel_rfl) (by kernel_rfl) (by kernel_rfl) (by kernel_rfl) (by kernel_rfl) rfl rfl ?_)
      intro w hS
      have hC := hC.again ⟨_, _, hS.re [3, 3, 2] [] rfl sub_self⟩
      refine ⟨hC, ?_⟩
      refine ED.done (by kernel_rfl) ?_
      refine EQ.pop ?_
      refine EQ.to ?_
      refine EQ.keep [3, 8, 9, 10] [(3, sv (some a5) a3 a0), (8, pt a4 0), (9, pt a2 0), (10, ia a1)] (by kernel_rfl) ?_
      exact fun a ha => ⟨b4, a9, IntKind.i32.wrap (b0 + (IntKind.i32.wrap (a0.getD a1.toNat 0))), b1, b2, b3, b8, b9, b5, b6, ha, (hS.re [3, 3, 3, 3] [] rfl (sub_cons 0 rfl (sub_tail (sub_self)))), H⟩
     rw [if_neg f5] at H
     by_cases f6 : (Int.tmod a1 4) = 1
     ·rw [if_pos f6] at H
      refine EW.keep [3, 8, 9, 10] [(3, sv (some a5) a3 a0), (8, pt a4 0), (9, pt a2 0), (10, ia a1)] (by kernel_rfl) ?_
      have hS := hS.drew
      refine EW.dr (B := B) [Ass.own 21 (Kd.int .i32) b8 b9 b4, Ass.box 58 a4 (cellsS58 zS58 (none, 0)), Ass.own 21 (Kd.int .i32) b5 b6 a9] [Ro.sl (Kd.int .u8) (some a5) a3 a0] (by kernel_rfl) (by kernel_rfl) ?_
      have hN : Region.noSelect Cd27.r.r.l.r.l.l.r.l.l.r.ops = true := (by kernel_rfl)
      have hF : freeAll Cd27.r.r.l.r.l.l.r.l.l.r.ops = true := (by kernel_rfl)
      have hC : Core B [Ass.own 21 (Kd.int .i32) b8 b9 b4, Ass.box 58 a4 (cellsS58 zS58 (none, 0)), Ass.own 21 (Kd.int .i32) b5 b6 a9] [Ro.sl (Kd.int .u8) (some a5) a3 a0] _ := ⟨_, _, hS.re [3, 3, 2] [] rfl sub_self⟩
      refine ED.quick hN hF hC [0, 1] [3, 8, 9, 10, 59] 12 [(3, sv (some a5) a3 a0), (8, pt a4 0), (9, pt a2 0), (10, ia a1), (59, ia (Int.tmod a1 4))] (bm 14 3) (by kernel_rfl) (by kernel_rfl) ?_
      refine ED.keep [3, 8, 9, 10, 59] [(3, sv (some a5) a3 a0), (8, pt a4 0), (9, pt a2 0), (10, ia a1), (59, ia (Int.tmod a1 4))] (by kernel_rfl) ?_
      refine ED.as' [(3, sv (some a5) a3 a0), (8, pt a4 0), (9, pt a2 0), (10, ia a1), (59, ia 1)] (by simp only [cellsS58, f6]) ?_
      refine ED.quick hN hF hC [2, 3, 5, 6, 11] [3, 8, 9, 10, 59, 61, 63, 64, 69] 7 [(3, sv (some a5) a3 a0), (8, pt a4 0), (9, pt a2 0), (10, ia a1), (59, ia 1), (61, pt a2 5), (63, sv (some a5) a3 a0), (64, ia a1), (69, pt a2 4)] (bm 14 2159) (by kernel_rfl) (by kernel_rfl) ?_
      refine ED.Y hN hF hC 7 6 (bm 14 2287) (by kernel_rfl) (by kernel_rfl) rfl (fun _ _ _ hS => YO.idx 25 1 a5 a0.length a3 .i64 a1 65 (by kernel_rfl) (by kernel_rfl) (by kernel_rfl) (by kernel_rfl) c1 c2) ?_
      refine ED.Y hN hF hC 8 5 (bm 14 2543) (by kernel_rfl) (by kernel_rfl) rfl (fun _ _ _ hS => YO.loadEl hS (Kd.int .u8) a5 a3 a0 (Rd.ro 0 rfl) 0 (encI .u8) encI_of a1 c1 c2 5 1 0 1 rfl (ig (a0.getD a1.toNat 0)) 66 (by kernel_rfl) (by kernel_rfl) (by kernel_rfl) (by kernel_rfl)) ?_
      refine ED.quick hN hF hC [9] [3, 8, 9, 10, 59, 61, 67, 69] 4 [(3, sv (some a5) a3 a0), (8, pt a4 0), (9, pt a2 0), (10, ia a1), (59, ia 1), (61, pt a2 5), (67, ib (IntKind.i32.wrap (a0.getD a1.toNat 0))), (69, pt a2 4)] (bm 14 3055) (by kernel_rfl) (by kernel_rfl) ?_
      refine ED.one 4 3 (bm 14 3071) (by kernel_rfl) (by kernel_rfl) (by kernel_rfl) (EO.Y (YO.loadBox hS 1 rfl 21 5 1 (ib b1) 62 (by kernel_rfl) (by kernel_rfl) (by kernel_rfl) (by kernel_rfl)) ?_)
      have hC := hC.again ⟨_, _, hS.re [3, 3, 2] [] rfl sub_self⟩
      refine ⟨hC, ?_⟩
      refine ED.quick hN hF hC [10, 12] [3, 8, 9, 10, 68, 70] 1 [(3, sv (some a5) a3 a0), (8, pt a4 0), (9, pt a2 0), (10, ia a1), (68, ib (IntKind.i32.wrap (b1 + (IntKind.i32.wrap (a0.getD a1.toNat 0))))), (70, pt a2 5)] (bm 14 8191) (by kernel_rfl) (by kernel_rfl) ?_
      refine ED.one 13 0 (bm 14 16383) (by kernel_rfl) (by kernel_rfl) (by kernel_rfl) (EO.storeBox (os' := Ass.own 21 (Kd.int .i32) b8 b9 b4 :: Ass.box 58 a2 [ib (IntKind.i32.wrap a6), ia (IntKind.i64.wrap (Int.tmod a6 3)), ia (IntKind.i64.wrap (Int.tmod a7 20)), sv b5 b6 a9, ib b0, ib (IntKind.i32.wrap (b1 + (IntKind.i32.wrap (a0.getD a1.toNat 0)))), ib b2, ib b3, ia (IntKind.i64.wrap (Int.tmod a8 4)), ia (IntKind.i64.wrap (Int.tmod (IntKind.u8.wrap (Int.tdiv a8 4)) 4)), ie 0, ia (IntKind.i64.wrap (Int.tmod a7 3))] :: Ass.box 58 a4 (cellsS58 zS58 (none, 0)) :: Ass.own 21 (Kd.int .i32) b5 b6 a9 :: os) hS 1 rfl 21 5 (ib (IntKind.i32.wrap (b1 + (IntKind.i32.wrap (a0.getD a1.toNat 0))))) [ib (IntKind.i32.wrap a6), ia (IntKind.i64.wrap (Int.tmod a6 3)), ia (IntKind.i64.wrap (Int.tmod a7 20)), sv b5 b6 a9, ib b0, ib (IntKind.i32.wrap (b1 + (IntKind.i32.wrap (a0.getD a1.toNat 0)))), ib b2, ib b3, ia (IntKind.i64.wrap (Int.tmod a8 4)), ia (IntKind.i64.wrap (Int.tmod (IntKind.u8.wrap (Int.tdiv a8 4)) 4)), ie 0, ia (IntKind.i64.wrap (Int.tmod a7 3))] (by kernel_rfl) (by kernel_rfl) (by kernel_rfl) (by kernel_rfl) (by kernel_rfl) (by kernel_rfl) rfl rfl ?_)
      intro w hS
      have hC := hC.again ⟨_, _, hS.re [3, 3, 2] [] rfl sub_self⟩
      refine ⟨hC, ?_⟩
      refine ED.done (by kernel_rfl) ?_
      refine EQ.pop ?_
      refine EQ.to ?_
      refine EQ.keep [3, 8, 9, 10] [(3, sv (some a5) a3 a0), (8, pt a4 0), (9, pt a2 0), (10, ia a1)] (by kernel_rfl) ?_
      exact fun a ha => ⟨b4, a9, b0, IntKind.i32.wrap (b1 + (IntKind.i32.wrap (a0.getD a1.toNat 0))), b2, b3, b8, b9, b5, b6, ha, (hS.re [3, 3, 3, 3] [] rfl (sub_cons 0 rfl (sub_tail (sub_self)))), H⟩
     rw [if_neg f6] at H
     by_cases f7 : (Int.tmod a1 4) = 2
     ·rw [if_pos f7] at H
      refine EW.keep [3, 8, 9, 10] [(3, sv (some a5) a3 a0), (8, pt a4 0), (9, pt a2 0), (10, ia a1)] (by kernel_rfl) ?_
      have hS := hS.drew
      refine EW.dr (B := B) [Ass.own 21 (Kd.int .i32) b8 b9 b4, Ass.box 58 a4 (cellsS58 zS58 (none, 0)), Ass.own 21 (Kd.int .i32) b5 b6 a9] [Ro.sl (Kd.int .u8) (some a5) a3 a0] (by kernel_rfl) (by kernel_rfl) ?_
      have hN : Region.noSelect Cd27.r.r.l.r.l.l.r.l.l.r.ops = true := (by kernel_rfl)
      have hF : freeAll Cd27.r.r.l.r.l.l.r.l.l.r.ops = true := (by kernel_rfl)
      have hC : Core B [Ass.own 21 (Kd.int .i32) b8 b9 b4, Ass.box 58 a4 (cellsS58 zS58 (none, 0)), Ass.own 21 (Kd.int .i32) b5 b6 a9] [Ro.sl (Kd.int .u8) (some a5) a3 a0] _ := ⟨_, _, hS.re [3, 3, 2] [] rfl sub_self⟩
      refine ED.quick hN hF hC [0, 1] [3, 8, 9, 10, 59] 12 [(3, sv (some a5) a3 a0), (8, pt a4 0), (9, pt a2 0), (10, ia a1), (59, ia (Int.tmod a1 4))] (bm 14 3) (by kernel_rfl) (by kernel_rfl) ?_
      refine ED.keep [3, 8, 9, 10, 59] [(3, sv (some a5) a3 a0), (8, pt a4 0), (9, pt a2 0), (10, ia a1), (59, ia (Int.tmod a1 4))] (by kernel_rfl) ?_
      refine ED.as' [(3, sv (some a5) a3 a0), (8, pt a4 0), (9, pt a2 0), (10, ia a1), (59, ia 2)] (by simp only [cellsS58, f7]) ?_
      refine ED.quick hN hF hC [2, 3, 5, 6, 11] [3, 8, 9, 10, 59, 61, 63, 64, 69] 7 [(3, sv (some a5) a3 a0), (8, pt a4 0), (9, pt a2 0), (10, ia a1), (59, ia 2), (61, pt a2 6), (63, sv (some a5) a3 a0), (64, ia a1), (69, pt a2 4)] (bm 14 2159) (by kernel_rfl) (by kernel_rfl) ?_
      refine ED.Y hN hF hC 7 6 (bm 14 2287) (by kernel_rfl) (by kernel_rfl) rfl (fun _ _ _ hS => YO.idx 25 1 a5 a0.length a3 .i64 a1 65 (by kernel_rfl) (by kernel_rfl) (by kernel_rfl) (by kernel_rfl) c1 c2) ?_
      refine ED.Y hN hF hC 8 5 (bm 14 2543) (by kernel_rfl) (by kernel_rfl) rfl (fun _ _ _ hS => YO.loadEl hS (Kd.int .u8) a5 a3 a0 (Rd.ro 0 rfl) 0 (encI .u8) encI_of a1 c1 c2 5 1 0 1 rfl (ig (a0.getD a1.toNat 0)) 66 (by kernel_rfl) (by kernel_rfl) (by kernel_rfl) (by kernel_rfl)) ?_
      refine ED.quick hN hF hC [9] [3, 8, 9, 10, 59, 61, 67, 69] 4 [(3, sv (some a5) a3 a0), (8, pt a4 0), (9, pt a2 0), (10, ia a1), (59, ia 2), (61, pt a2 6), (67, ib (IntKind.i32.wrap (a0.getD a1.toNat 0))), (69, pt a2 4)] (bm 14 3055) (by kernel_rfl) (by kernel_rfl) ?_
      refine ED.one 4 3 (bm 14 3071) (by kernel_rfl) (by kernel_rfl) (by kernel_rfl) (EO.Y (YO.loadBox hS 1 rfl 21 6 1 (ib b2) 62 (by kernel_rfl) (by kernel_rfl) (by kernel_rfl) (by kernel_rfl)) ?_)
      have hC := hC.again ⟨_, _, hS.re [3, 3, 2] [] rfl sub_self⟩
      refine ⟨hC, ?_⟩
      refine ED.quick hN hF hC [10, 12] [3, 8, 9, 10, 68, 70] 1 [(3, sv (some a5) a3 a0), (8, pt a4 0), (9, pt a2 0), (10, ia a1), (68, ib (IntKind.i32.wrap (b2 + (IntKind.i32.wrap (a0.getD a1.toNat 0))))), (70, pt a2 6)] (bm 14 8191) (by kernel_rfl) (by kernel_rfl) ?_
      refine ED.one 13 0 (bm 14 16383) (by kernel_rfl) (by kernel_rfl) (by kernel_rfl) (EO.storeBox (os' := Ass.own 21 (Kd.int .i32) b8 b9 b4 :: Ass.box 58 a2 [ib (IntKind.i32.wrap a6), ia (IntKind.i64.wrap (Int.tmod a6 3)), ia (IntKind.i64.wrap (Int.tmod a7 20)), sv b5 b6 a9, ib b0, ib b1, ib (IntKind.i32.wrap (b2 + (IntKind.i32.wrap (a0.getD a1.toNat 0)))), ib b3, ia (IntKind.i64.wrap (Int.tmod a8 4)), ia (IntKind.i64.wrap (Int.tmod (IntKind.u8.wrap (Int.tdiv a8 4)) 4)), ie 0, ia (IntKind.i64.wrap (Int.tmod a7 3))] :: Ass.box 58 a4 (cellsS58 zS58 (none, 0)) :: Ass.own 21 (Kd.int .i32) b5 b6 a9 :: os) hS 1 rfl 21 6 (ib (IntKind.i32.wrap (b2 + (IntKind.i32.wrap (a0.getD a1.toNat 0))))) [ib (IntKind.i32.wrap a6), ia (IntKind.i64.wrap (Int.tmod a6 3)), ia (IntKind.i64.wrap (Int.tmod a7 20)), sv b5 b6 a9, ib b0, ib b1, ib (IntKind.i32.wrap (b2 + (IntKind.i32.wrap (a0.getD a1.toNat 0)))), ib b3, ia (IntKind.i64.wrap (Int.tmod a8 4)), ia (IntKind.i64.wrap (Int.tmod (IntKind.u8.wrap (Int.tdiv a8 4)) 4)), ie 0, ia (IntKind.i64.wrap (Int.tmod a7 3))] (by kernel_rfl) (by kernel_rfl) (by kernel_rfl) (by kernel_rfl) (by kernel_rfl) (by kernel_rfl) rfl rfl ?_)
      intro w hS
      have hC := hC.again ⟨_, _, hS.re [3, 3, 2] [] rfl sub_self⟩
      refine ⟨hC, ?_⟩
      refine ED.done (by kernel_rfl) ?_
      refine EQ.pop ?_
      refine EQ.to ?_
      refine EQ.keep [3, 8, 9, 10] [(3, sv (some a5) a3 a0), (8, pt a4 0), (9, pt a2 0), (10, ia a1)] (by kernel_rfl) ?_
      exact fun a ha => ⟨b4, a9, b0, b1, IntKind.i32.wrap (b2 + (IntKind.i32.wrap (a0.getD a1.toNat 0))), b3, b8, b9, b5, b6, ha, (hS.re [3, 3, 3, 3] [] rfl (sub_cons 0 rfl (sub_tail (sub_self)))), H⟩
     rw [if_neg f7] at H
     by_cases f8 : (Int.tmod a1 4) = 3
     ·rw [if_pos f8] at H
      refine EW.keep [3, 8, 9, 10] [(3, sv (some a5) a3 a0), (8, pt a4 0), (9, pt a2 0), (10, ia a1)] (by kernel_rfl) ?_
      have hS := hS.drew
      refine EW.dr (B := B) [Ass.own 21 (Kd.int .i32) b8 b9 b4, Ass.box 58 a4 (cellsS58 zS58 (none, 0)), Ass.own 21 (Kd.int .i32) b5 b6 a9] [Ro.sl (Kd.int .u8) (some a5) a3 a0] (by kernel_rfl) (by kernel_rfl) ?_
      have hN : Region.noSelect Cd27.r.r.l.r.l.l.r.l.l.r.ops = true := (by kernel_rfl)
      have hF : freeAll Cd27.r.r.l.r.l.l.r.l.l.r.ops = true := (by kernel_rfl)
      have hC : Core B [Ass.own 21 (Kd.int .i32) b8 b9 b4, Ass.box 58 a4 (cellsS58 zS58 (none, 0)), Ass.own 21 (Kd.int .i32) b5 b6 a9] [Ro.sl (Kd.int .u8) (some a5) a3 a0] _ := ⟨_, _, hS.re [3, 3, 2] [] rfl sub_self⟩
      refine ED.quick hN hF hC [0, 1] [3, 8, 9, 10, 59] 12 [(3, sv (some a5) a3 a0), (8, pt a4 0), (9, pt a2 0), (10, ia a1), (59, ia (Int.tmod a1 4))] (bm 14 3) (by kernel_rfl) (by kernel_rfl) ?_
      refine ED.keep [3, 8, 9, 10, 59] [(3, sv (some a5) a3 a0), (8, pt a4 0), (9, pt a2 0), (10, ia a1), (59, ia (Int.tmod a1 4))] (by kernel_rfl) ?_
      refine ED.as' [(3, sv (some a5) a3 a0), (8, pt a4 0), (9, pt a2 0), (10, ia a1), (59, ia 3)] (by simp only [cellsS58, f8]) ?_
      refine ED.quick hN hF hC [2, 3, 5, 6, 11] [3, 8, 9, 10, 59, 61, 63, 64, 69] 7 [(3, sv (some a5) a3 a0), (8, pt a4 0), (9, pt a2 0), (10, ia a1), (59, ia 3), (61, pt a2 7), (63, sv (some a5) a3 a0), (64, ia a1), (69, pt a2 4)] (bm 14 2159) (by kernel_rfl) (by kernel_rfl) ?_
      refine ED.Y hN hF hC 7 6 (bm 14 2287) (by kernel_rfl) (by kernel_rfl) rfl (fun _ _ _ hS => YO.idx 25 1 a5 a0.length a3 .i64 a1 65 (by kernel_rfl) (by kernel_rfl) (by kernel_rfl) (by kernel_rfl) c1 c2) ?_
      refine ED.Y hN hF hC 8 5 (bm 14 2543) (by kernel_rfl) (by kernel_rfl) rfl (fun _ _ _ hS => YO.loadEl hS (Kd.int .u8) a5 a3 a0 (Rd.ro 0 rfl) 0 (encI .u8) encI_of a1 c1 c2 5 1 0 1 rfl (ig (a0.getD a1.toNat 0)) 66 (by kernel_rfl) (by kernel_rfl) (by kernel_rfl) (by kernel_rfl)) ?_
      refine ED.quick hN hF hC [9] [3, 8, 9, 10, 59, 61, 67, 69] 4 [(3, sv (some a5) a3 a0), (8, pt a4 0), (9, pt a2 0), (10, ia a1), (59, ia 3), (61, pt a2 7), (67, ib (IntKind.i32.wrap (a0.getD a1.toNat 0))), (69, pt a2 4)] (bm 14 3055) (by kernel_rfl) (by kernel_rfl) ?_
      refine ED.one 4 3 (bm 14 3071) (by kernel_rfl) (by kernel_rfl) (by kernel_rfl) (EO.Y (YO.loadBox hS 1 rfl 21 7 1 (ib b3) 62 (by kernel_rfl) (by kernel_rfl) (by kernel_rfl) (by kernel_rfl)) ?_)
      have hC := hC.again ⟨_, _, hS.re [3, 3, 2] [] rfl sub_self⟩
      refine ⟨hC, ?_⟩
      refine ED.quick hN hF hC [10, 12] [3, 8, 9, 10, 68, 70] 1 [(3, sv (some a5) a3 a0), (8, pt a4 0), (9, pt a2 0), (10, ia a1), (68, ib (IntKind.i32.wrap (b3 + (IntKind.i32.wrap (a0.getD a1.toNat 0))))), (70, pt a2 7)] (bm 14 8191) (by kernel_rfl) (by kernel_rfl) ?_
      refine ED.one 13 0 (bm 14 16383) (by kernel_rfl) (by kernel_rfl) (by kernel_rfl) (EO.storeBox (os' := Ass.own 21 (Kd.int .i32) b8 b9 b4 :: Ass.box 58 a2 [ib (IntKind.i32.wrap a6), ia (IntKind.i64.wrap (Int.tmod a6 3)), ia (IntKind.i64.wrap (Int.tmod a7 20)), sv b5 b6 a9, ib b0, ib b1, ib b2, ib (IntKind.i32.wrap (b3 + (IntKind.i32.wrap (a0.getD a1.toNat 0)))), ia (IntKind.i64.wrap (Int.tmod a8 4)), ia (IntKind.i64.wrap (Int.tmod (IntKind.u8.wrap (Int.tdiv a8 4)) 4)), ie 0, ia (IntKind.i64.wrap (Int.tmod a7 3))] :: Ass.box 58 a4 (cellsS58 zS58 (none, 0)) :: Ass.own 21 (Kd.int .i32) b5 b6 a9 :: os) hS 1 rfl 21 7 (ib (IntKind.i32.wrap (b3 + (IntKind.i32.wrap (a0.getD a1.toNat 0))))) [ib (IntKind.i32.wrap a6), ia (IntKind.i64.wrap (Int.tmod a6 3)), ia (IntKind.i64.wrap (Int.tmod a7 20)), sv b5 b6 a9, ib b0, ib b1, ib b2, ib (IntKind.i32.wrap (b3 + (IntKind.i32.wrap (a0.getD a1.toNat 0)))), ia (IntKind.i64.wrap (Int.tmod a8 4)), ia (IntKind.i64.wrap (Int.tmod (IntKind.u8.wrap (Int.tdiv a8 4)) 4)), ie 0, ia (IntKind.i64.wrap (Int.tmod a7 3))] (by kernel_rfl) (by kernel_rfl) (by kernel_rfl) (by kernel_rfl) (by kernel_rfl) (by kernel_rfl) rfl rfl ?_)
      intro w hS
      have hC := hC.again ⟨_, _, hS.re [3, 3, 2] [] rfl sub_self⟩
      refine ⟨hC, ?_⟩
      refine ED.done (by kernel_rfl) ?_
      refine EQ.pop ?_
      refine EQ.to ?_
      refine EQ.keep [3, 8, 9, 10] [(3, sv (some a5) a3 a0), (8, pt a4 0), (9, pt a2 0), (10, ia a1)] (by kernel_rfl) ?_
      exact fun a ha => ⟨b4, a9, b0, b1, b2, IntKind.i32.wrap (b3 + (IntKind.i32.wrap (a0.getD a1.toNat 0))), b8, b9, b5, b6, ha, (hS.re [3, 3, 3, 3] [] rfl (sub_cons 0 rfl (sub_tail (sub_self)))), H⟩
     rw [if_neg f8] at H
     cases H
   obtain ⟨f2, d8, e1, e2, e3, e4, g0, g2, e5, e6, ha, hS, H⟩ := hI
   rw [g7] at H
   (try dsimp only at H)
   refine EW.at ?_ a ha
   clear ha a
   refine EW.rg (by kernel_rfl) ?_
   refine EL.quick 3 [3, 8, 9, 10] [(3, sv b7 a3 a0), (8, pt a4 0), (9, pt a2 0), (10, ia (IntKind.i64.wrap (a1 + 1)))] (by kernel_rfl) ?_
   refine EL.done (by kernel_rfl) ?_
   refine EQ.to ?_
   refine EQ.keep [3, 8, 9, 10] [(3, sv b7 a3 a0), (8, pt a4 0), (9, pt a2 0), (10, ia (IntKind.i64.wrap (a1 + 1)))] (by kernel_rfl) ?_
   exact fun a ha => ⟨n, Nat.lt_succ_self n, d8, e1, e2, e3, e4, IntKind.i64.wrap (a1 + 1), e5, e6, ha, (hS.re [3, 3, 3] [3] rfl (sub_cons 0 rfl (sub_tail (sub_self)))), H⟩
  rw [if_neg f4] at H
  refine EW.exit (id := 0) (by kernel_rfl) ?_
  refine EQ.exitCode ?_
  refine EQ.exitTo ?_
  refine EQ.exitHere ?_
  refine EQ.to ?_
  refine EQ.keep [8, 9] [(8, pt a4 0), (9, pt a2 0)] (by kernel_rfl) ?_
  exact fun a ha => ⟨c0, b0, b1, b2, b3, c4, c5, ha, (hS.re [2, 2, 2] [] rfl (sub_cons 0 rfl (sub_tail (sub_self)))), H⟩
 obtain ⟨c3, c8, c9, d0, d1, c6, c7, ha, hS, H⟩ := hI
 rw [g5] at H
 (try dsimp only at H)
 refine EW.at ?_ a ha
 clear ha a
 refine EW.sq (by kernel_rfl) ?_
 refine EW.rg (by kernel_rfl) ?_
 refine EL.of (EO.Y (YO.loadBox hS 0 rfl 58 0 12 (ag [ib (IntKind.i32.wrap a6), ia (IntKind.i64.wrap (Int.tmod a6 3)), ia (IntKind.i64.wrap (Int.tmod a7 20)), sv c6 c7 c3, ib c8, ib c9, ib d0, ib d1, ia (IntKind.i64.wrap (Int.tmod a8 4)), ia (IntKind.i64.wrap (Int.tmod (IntKind.u8.wrap (Int.tdiv a8 4)) 4)), ie 0, ia (IntKind.i64.wrap (Int.tmod a7 3))]) 71 (by kernel_rfl) (by kernel_rfl) (by kernel_rfl) (by kernel_rfl)) ?_)
 refine EL.of (EO.storeBox (os' := Ass.box 58 a2 [ib (IntKind.i32.wrap a6), ia (IntKind.i64.wrap (Int.tmod a6 3)), ia (IntKind.i64.wrap (Int.tmod a7 20)), sv c6 c7 c3, ib c8, ib c9, ib d0, ib d1, ia (IntKind.i64.wrap (Int.tmod a8 4)), ia (IntKind.i64.wrap (Int.tmod (IntKind.u8.wrap (Int.tdiv a8 4)) 4)), ie 0, ia (IntKind.i64.wrap (Int.tmod a7 3))] :: Ass.box 58 a4 [ib (IntKind.i32.wrap a6), ia (IntKind.i64.wrap (Int.tmod a6 3)), ia (IntKind.i64.wrap (Int.tmod a7 20)), sv c6 c7 c3, ib c8, ib c9, ib d0, ib d1, ia (IntKind.i64.wrap (Int.tmod a8 4)), ia (IntKind.i64.wrap (Int.tmod (IntKind.u8.wrap (Int.tdiv a8 4)) 4)), ie 0, ia (IntKind.i64.wrap (Int.tmod a7 3))] :: Ass.own 21 (Kd.int .i32) c6 c7 c3 :: os) hS 1 rfl 58 0 (ag [ib (IntKind.i32.wrap a6), ia (IntKind.i64.wrap (Int.tmod a6 3)), ia (IntKind.i64.wrap (Int.tmod a7 20)), sv c6 c7 c3, ib c8, ib c9, ib d0, ib d1, ia (IntKind.i64.wrap (Int.tmod a8 4)), ia (IntKind.i64.wrap (Int.tmod (IntKind.u8.wrap (Int.tdiv a8 4)) 4)), ie 0, ia (IntKind.i64.wrap (Int.tmod a7 3))]) [ib (IntKind.i32.wrap a6), ia (IntKind.i64.wrap (Int.tmod a6 3)), ia (IntKind.i64.wrap (Int.tmod a7 20)), sv c6 c7 c3, ib c8, ib c9, ib d0, ib d1, ia (IntKind.i64.wrap (Int.tmod a8 4)), ia (IntKind.i64.wrap (Int.tmod (IntKind.u8.wrap (Int.tdiv a8 4)) 4)), ie 0, ia (IntKind.i64.wrap (Int.tmod a7 3))] (by kernel_rfl) (by kernel_rfl) (by kernel_rfl) (by kernel_rfl) (by kernel_rfl) (by kernel_rfl) rfl rfl ?_)
 intro w hS
 refine EL.done (by kernel_rfl) ?_
 refine EQ.code ?_
 refine EW.ret (by kernel_rfl) ?_
 have hS := St.fr hS 2 rfl
 obtain rfl := Option.some.inj H
 exact EQ.leaveC hS 1 rfl 8 58 0 12 (ag [ib (IntKind.i32.wrap a6), ia (IntKind.i64.wrap (Int.tmod a6 3)), ia (IntKind.i64.wrap (Int.tmod a7 20)), sv c6 c7 c3, ib c8, ib c9, ib d0, ib d1, ia (IntKind.i64.wrap (Int.tmod a8 4)), ia (IntKind.i64.wrap (Int.tmod (IntKind.u8.wrap (Int.tdiv a8 4)) 4)), ie 0, ia (IntKind.i64.wrap (Int.tmod a7 3))]) (by kernel_rfl) (by kernel_rfl) (by kernel_rfl) ⟨_, rfl, c6, c7, rfl, (hS.re [] [0, 0] rfl (sub_cons 0 rfl (sub_tail (sub_self))))⟩

/-! ### confidant/confidantref5.Arg: function 24 -/
def confidantref5_Arg.f (K : Nat) (a0 : Int) : Option Int := lt (fun (a3 : Bool) => (if a3 = true then (some 1) else (lt (fun (a4 : Bool) => (if a4 = true then (some 2) else (lt (fun (a5 : Bool) => (if a5 = true then (some 3) else (lt (fun (a6 : Bool) => (if a6 = true then (some 4) else (if a0 = 20 then (some 5) else (lt (fun (a7 : Bool) => (if a7 = true then (some 6) else (some 0))) fun b8 => (if a0 = 23 then (b8 true) else (b8 (decide (a0 = 24)))))))) fun a2 => (if a0 = 15 then (a2 true) else (if a0 = 16 then (a2 true) else (if a0 = 17 then (a2 true) else (a2 (decide (a0 = 22))))))))) fun b7 => (if a0 = 12 then (b7 true) else (b7 (decide (a0 = 13))))))) fun b6 => (if a0 = 10 then (b6 true) else (b6 (decide (a0 = 11))))))) fun b5 => (if a0 = 1 then (b5 true) else (b5 (decide (a0 = 26))))
set_option maxRecDepth 100000 in
theorem confidantref5_Arg.calls {K : Nat} {a0 : Int} {a1 : Int} {B w : World} {os : List Ass} {rs : List Ro} (H : confidantref5_Arg.f K a0 = some a1) (hS : St B w (os) (rs)) :
  Calls Try.prog 24 [ia a0].toArray w (fun en w' => ∃ v, en = .returned v ∧ v = ia a1 ∧ St B w' (os) (rs)) := by
 unfold confidantref5_Arg.f at H
 refine calls_of_EW (args := [ia a0]) (c := Cd24) 23 Try.func24 (by kernel_rfl) (by kernel_rfl) (by kernel_rfl) ?_
 refine EW.sq (by kernel_rfl) ?_
 refine EW.rg (by kernel_rfl) ?_
 refine EL.quick 1 [0] [(0, ia a0)] (by kernel_rfl) ?_
 refine EL.done (by kernel_rfl) ?_
 refine EQ.code ?_
 refine EW.sq (by kernel_rfl) ?_
 refine EW.sq (by kernel_rfl) ?_
 refine EW.rg (by kernel_rfl) ?_
 refine EL.quick 1 [3] [(3, ia a0)] (by kernel_rfl) ?_
 refine EL.done (by kernel_rfl) ?_
 refine EQ.code ?_
 refine EW.bl 0 (by kernel_rfl) ?_
 obtain ⟨b5, c5, H⟩ := lt_out H
 refine EW.ct (fun a w => ∃ a3 : Bool, Sat 23 [(3, ia a0), (4, .bool (a3))] a ∧ St B w (os) (rs) ∧ b5 a3 = some a1) (by kernel_rfl) ?_ (fun a w hI => ?_)
 ·refine EW.sq (by kernel_rfl) ?_
  refine EW.rg (by kernel_rfl) ?_
  refine EL.quick 2 [3, 4] [(3, ia a0), (4, .bool (decide (a0 = 1)))] (by kernel_rfl) ?_
  refine EL.done (by kernel_rfl) ?_
  refine EQ.code ?_
  refine EW.cdP (a0 = 1) (by kernel_rfl) (by kernel_rfl) (fun a8 => ?_) (fun a8 => ?_)
  ·rw [if_pos a8] at H
   refine EW.keep [3, 4] [(3, ia a0), (4, .bool (decide (a0 = 1)))] (by kernel_rfl) ?_
   refine EW.as' [(3, ia a0), (4, .bool (true))] (by simp only [dec_t a8, Bool.not_true, Bool.not_false]) ?_
   refine EW.skip (by kernel_rfl) ?_
   refine EQ.to ?_
   refine EQ.keep [3, 4] [(3, ia a0), (4, .bool (true))] (by kernel_rfl) ?_
   exact fun a ha => ⟨true, ha, (hS.re [] [] rfl (sub_self)), H⟩
  rw [if_neg a8] at H
  refine EW.rg (by kernel_rfl) ?_
  refine EL.quick 2 [3, 4] [(3, ia a0), (4, .bool (decide (a0 = 26)))] (by kernel_rfl) ?_
  refine EL.done (by kernel_rfl) ?_
  refine EQ.to ?_
  refine EQ.keep [3, 4] [(3, ia a0), (4, .bool (decide (a0 = 26)))] (by kernel_rfl) ?_
  exact fun a ha => ⟨decide (a0 = 26), ha, (hS.re [] [] rfl (sub_self)), H⟩
 obtain ⟨a3, ha, hS, H⟩ := hI
 rw [c5] at H
 (try dsimp only at H)
 refine EW.at ?_ a ha
 clear ha a
 refine EW.cdP' (a3) (by kernel_rfl) (by kernel_rfl) (fun b9 => ?_) (fun b9 => ?_)
 ·rw [if_pos b9] at H
  refine EW.sq (by kernel_rfl) ?_
  refine EW.rg (by kernel_rfl) ?_
  refine EL.quick 1 [2] [(2, ia 1)] (by kernel_rfl) ?_
  refine EL.done (by kernel_rfl) ?_
  refine EQ.code ?_
  refine EW.ret (by kernel_rfl) ?_
  refine EQ.ret ?_
  refine EQ.ret ?_
  obtain rfl := Option.some.inj H
  exact EQ.leave (ia 1) (by kernel_rfl) ⟨_, rfl, rfl, (hS.re [] [] rfl (sub_self))⟩
 rw [if_neg b9] at H
 obtain ⟨b6, c6, H⟩ := lt_out H
 refine EW.ct (fun a w => ∃ a4 : Bool, Sat 23 [(3, ia a0), (7, .bool (a4))] a ∧ St B w (os) (rs) ∧ b6 a4 = some a1) (by kernel_rfl) ?_ (fun a w hI => ?_)
 ·refine EW.sq (by kernel_rfl) ?_
  refine EW.rg (by kernel_rfl) ?_
  refine EL.quick 2 [3, 7] [(3, ia a0), (7, .bool (decide (a0 = 10)))] (by kernel_rfl) ?_
  refine EL.done (by kernel_rfl) ?_
  refine EQ.code ?_
  refine EW.cdP (a0 = 10) (by kernel_rfl) (by kernel_rfl) (fun a9 => ?_) (fun a9 => ?_)
  ·rw [if_pos a9] at H
   refine EW.keep [3, 7] [(3, ia a0), (7, .bool (decide (a0 = 10)))] (by kernel_rfl) ?_
   refine EW.as' [(3, ia a0), (7, .bool (true))] (by simp only [dec_t a9, Bool.not_true, Bool.not_false]) ?_
   refine EW.skip (by kernel_rfl) ?_
   refine EQ.to ?_
   refine EQ.keep [3, 7] [(3, ia a0), (7, .bool (true))] (by kernel_rfl) ?_
   exact fun a ha => ⟨true, ha, (hS.re [] [] rfl (sub_self)), H⟩
  rw [if_neg a9] at H
  refine EW.rg (by kernel_rfl) ?_
  refine EL.quick 2 [3, 7] [(3, ia a0), (7, .bool (decide (a0 = 11)))] (by kernel_rfl) ?_
  refine EL.done (by kernel_rfl) ?_
  refine EQ.to ?_
  refine EQ.keep [3, 7] [(3, ia a0), (7, .bool (decide (a0 = 11)))] (by kernel_rfl) ?_
  exact fun a ha => ⟨decide (a0 = 11), ha, (hS.re [] [] rfl (sub_self)), H⟩
 obtain ⟨a4, ha, hS, H⟩ := hI
 rw [c6] at H
 (try dsimp only at H)
 refine EW.at ?_ a ha
 clear ha a
 refine EW.cdP' (a4) (by kernel_rfl) (by kernel_rfl) (fun c0 => ?_) (fun c0 => ?_)
 ·rw [if_pos c0] at H
  refine EW.sq (by kernel_rfl) ?_
  refine EW.rg (by kernel_rfl) ?_
  refine EL.quick 1 [2] [(2, ia 2)] (by kernel_rfl) ?_
  refine EL.done (by kernel_rfl) ?_
  refine EQ.code ?_
  refine EW.ret (by kernel_rfl) ?_
  refine EQ.ret ?_
  refine EQ.ret ?_
  obtain rfl := Option.some.inj H
  exact EQ.leave (ia 2) (by kernel_rfl) ⟨_, rfl, rfl, (hS.re [] [] rfl (sub_self))⟩
 rw [if_neg c0] at H
 obtain ⟨b7, c7, H⟩ := lt_out H
 refine EW.ct (fun a w => ∃ a5 : Bool, Sat 23 [(3, ia a0), (10, .bool (a5))] a ∧ St B w (os) (rs) ∧ b7 a5 = some a1) (by kernel_rfl) ?_ (fun a w hI => ?_)
 ·refine EW.sq (by kernel_rfl) ?_
  refine EW.rg (by kernel_rfl) ?_
  refine EL.quick 2 [3, 10] [(3, ia a0), (10, .bool (decide (a0 = 12)))] (by kernel_rfl) ?_
  refine EL.done (by kernel_rfl) ?_
  refine EQ.code ?_
  refine EW.cdP (a0 = 12) (by kernel_rfl) (by kernel_rfl) (fun b0 => ?_) (fun b0 => ?_)
  ·rw [if_pos b0] at H
   refine EW.keep [3, 10] [(3, ia a0), (10, .bool (decide (a0 = 12)))] (by kernel_rfl) ?_
   refine EW.as' [(3, ia a0), (10, .bool (true))] (by simp only [dec_t b0, Bool.not_true, Bool.not_false]) ?_
   refine EW.skip (by kernel_rfl) ?_
   refine EQ.to ?_
   refine EQ.keep [3, 10] [(3, ia a0), (10, .bool (true))] (by kernel_rfl) ?_
   exact fun a ha => ⟨true, ha, (hS.re [] [] rfl (sub_self)), H⟩
  rw [if_neg b0] at H
  refine EW.rg (by kernel_rfl) ?_
  refine EL.quick 2 [3, 10] [(3, ia a0), (10, .bool (decide (a0 = 13)))] (by kernel_rfl) ?_
  refine EL.done (by kernel_rfl) ?_
  refine EQ.to ?_
  refine EQ.keep [3, 10] [(3, ia a0), (10, .bool (decide (a0 = 13)))] (by kernel_rfl) ?_
  exact fun a ha => ⟨decide (a0 = 13), ha, (hS.re [] [] rfl (sub_self)), H⟩
 obtain ⟨a5, ha, hS, H⟩ := hI
 rw [c7] at H
 (try dsimp only at H)
 refine EW.at ?_ a ha
 clear ha a
 refine EW.cdP' (a5) (by kernel_rfl) (by kernel_rfl) (fun c1 => ?_) (fun c1 => ?_)
 ·rw [if_pos c1] at H
  refine EW.sq (by kernel_rfl) ?_
  refine EW.rg (by kernel_rfl) ?_
  refine EL.quick 1 [2] [(2, ia 3)] (by kernel_rfl) ?_
  refine EL.done (by kernel_rfl) ?_
  refine EQ.code ?_
  refine EW.ret (by kernel_rfl) ?_
  refine EQ.ret ?_
  refine EQ.ret ?_
  obtain rfl := Option.some.inj H
  exact EQ.leave (ia 3) (by kernel_rfl) ⟨_, rfl, rfl, (hS.re [] [] rfl (sub_self))⟩
 rw [if_neg c1] at H
 obtain ⟨a2, c8, H⟩ := lt_out H
 refine EW.ct (fun a w => ∃ a6 : Bool, Sat 23 [(3, ia a0), (13, .bool (a6))] a ∧ St B w (os) (rs) ∧ a2 a6 = some a1) (by kernel_rfl) ?_ (fun a w hI => ?_)
 ·refine EW.sq (by kernel_rfl) ?_
  refine EW.rg (by kernel_rfl) ?_
  refine EL.quick 2 [3, 13] [(3, ia a0), (13, .bool (decide (a0 = 15)))] (by kernel_rfl) ?_
  refine EL.done (by kernel_rfl) ?_
  refine EQ.code ?_
  refine EW.cdP (a0 = 15) (by kernel_rfl) (by kernel_rfl) (fun b1 => ?_) (fun b1 => ?_)
  ·rw [if_pos b1] at H
   refine EW.keep [3, 13] [(3, ia a0), (13, .bool (decide (a0 = 15)))] (by kernel_rfl) ?_
   refine EW.as' [(3, ia a0), (13, .bool (true))] (by simp only [dec_t b1, Bool.not_true, Bool.not_false]) ?_
   refine EW.skip (by kernel_rfl) ?_
   refine EQ.to ?_
   refine EQ.keep [3, 13] [(3, ia a0), (13, .bool (true))] (by kernel_rfl) ?_
   exact fun a ha => ⟨true, ha, (hS.re [] [] rfl (sub_self)), H⟩
  rw [if_neg b1] at H
  refine EW.sq (by kernel_rfl) ?_
  refine EW.rg (by kernel_rfl) ?_
  refine EL.quick 2 [3, 13] [(3, ia a0), (13, .bool (decide (a0 = 16)))] (by kernel_rfl) ?_
  refine EL.done (by kernel_rfl) ?_
  refine EQ.code ?_
  refine EW.cdP (a0 = 16) (by kernel_rfl) (by kernel_rfl) (fun b2 => ?_) (fun b2 => ?_)
  ·rw [if_pos b2] at H
   refine EW.keep [3, 13] [(3, ia a0), (13, .bool (decide (a0 = 16)))] (by kernel_rfl) ?_
   refine EW.as' [(3, ia a0), (13, .bool (true))] (by simp only [dec_t b2, Bool.not_true, Bool.not_false]) ?_
   refine EW.skip (by kernel_rfl) ?_
   refine EQ.to ?_
   refine EQ.keep [3, 13] [(3, ia a0), (13, .bool (true))] (by kernel_rfl) ?_
   exact fun a ha => ⟨true, ha, (hS.re [] [] rfl (sub_self)), H⟩
  rw [if_neg b2] at H
  refine EW.sq (by kernel_rfl) ?_
  refine EW.rg (by kernel_rfl) ?_
  refine EL.quick 2 [3, 13] [(3, ia a0), (13, .bool (decide (a0 = 17)))] (by kernel_rfl) ?_
  refine EL.done (by kernel_rfl) ?_
  refine EQ.code ?_
  refine EW.cdP (a0 = 17) (by kernel_rfl) (by kernel_rfl) (fun b3 => ?_) (fun b3 => ?_)
  ·rw [if_pos b3] at H
   refine EW.keep [3, 13] [(3, ia a0), (13, .bool (decide (a0 = 17)))] (by kernel_rfl) ?_
   refine EW.as' [(3, ia a0), (13, .bool (true))] (by simp only [dec_t b3, Bool.not_true, Bool.not_false]) ?_
   refine EW.skip (by kernel_rfl) ?_
   refine EQ.to ?_
   refine EQ.keep [3, 13] [(3, ia a0), (13, .bool (true))] (by kernel_rfl) ?_
   exact fun a ha => ⟨true, ha, (hS.re [] [] rfl (sub_self)), H⟩
  rw [if_neg b3] at H
  refine EW.rg (by kernel_rfl) ?_
  refine EL.quick 2 [3, 13] [(3, ia a0), (13, .bool (decide (a0 = 22)))] (by kernel_rfl) ?_
  refine EL.done (by kernel_rfl) ?_
  refine EQ.to ?_
  refine EQ.keep [3, 13] [(3, ia a0), (13, .bool (decide (a0 = 22)))] (by kernel_rfl) ?_
  exact fun a ha => ⟨decide (a0 = 22), ha, (hS.re [] [] rfl (sub_self)), H⟩
 obtain ⟨a6, ha, hS, H⟩ := hI
 rw [c8] at H
 (try dsimp only at H)
 refine EW.at ?_ a ha
 clear ha a
 refine EW.cdP' (a6) (by kernel_rfl) (by kernel_rfl) (fun c2 => ?_) (fun c2 => ?_)
 ·rw [if_pos c2] at H
  refine EW.sq (by kernel_rfl) ?_
  refine EW.rg (by kernel_rfl) ?_
  refine EL.quick 1 [2] [(2, ia 4)] (by kernel_rfl) ?_
  refine EL.done (by kernel_rfl) ?_
  refine EQ.code ?_
  refine EW.ret (by kernel_rfl) ?_
  refine EQ.ret ?_
  refine EQ.ret ?_
  obtain rfl := Option.some.inj H
  exact EQ.leave (ia 4) (by kernel_rfl) ⟨_, rfl, rfl, (hS.re [] [] rfl (sub_self))⟩
 rw [if_neg c2] at H
 refine EW.sq (by kernel_rfl) ?_
 refine EW.rg (by kernel_rfl) ?_
 refine EL.quick 2 [3, 18] [(3, ia a0), (18, .bool (decide (a0 = 20)))] (by kernel_rfl) ?_
 refine EL.done (by kernel_rfl) ?_
 refine EQ.code ?_
 refine EW.cdP (a0 = 20) (by kernel_rfl) (by kernel_rfl) (fun c3 => ?_) (fun c3 => ?_)
 ·rw [if_pos c3] at H
  refine EW.sq (by kernel_rfl) ?_
  refine EW.rg (by kernel_rfl) ?_
  refine EL.quick 1 [2] [(2, ia 5)] (by kernel_rfl) ?_
  refine EL.done (by kernel_rfl) ?_
  refine EQ.code ?_
  refine EW.ret (by kernel_rfl) ?_
  refine EQ.ret ?_
  refine EQ.ret ?_
  obtain rfl := Option.some.inj H
  exact EQ.leave (ia 5) (by kernel_rfl) ⟨_, rfl, rfl, (hS.re [] [] rfl (sub_self))⟩
 rw [if_neg c3] at H
 obtain ⟨b8, c9, H⟩ := lt_out H
 refine EW.ct (fun a w => ∃ a7 : Bool, Sat 23 [(20, .bool (a7))] a ∧ St B w (os) (rs) ∧ b8 a7 = some a1) (by kernel_rfl) ?_ (fun a w hI => ?_)
 ·refine EW.sq (by kernel_rfl) ?_
  refine EW.rg (by kernel_rfl) ?_
  refine EL.quick 2 [3, 20] [(3, ia a0), (20, .bool (decide (a0 = 23)))] (by kernel_rfl) ?_
  refine EL.done (by kernel_rfl) ?_
  refine EQ.code ?_
  refine EW.cdP (a0 = 23) (by kernel_rfl) (by kernel_rfl) (fun b4 => ?_) (fun b4 => ?_)
  ·rw [if_pos b4] at H
   refine EW.keep [20] [(20, .bool (decide (a0 = 23)))] (by kernel_rfl) ?_
   refine EW.as' [(20, .bool (true))] (by simp only [dec_t b4, Bool.not_true, Bool.not_false]) ?_
   refine EW.skip (by kernel_rfl) ?_
   refine EQ.to ?_
   refine EQ.keep [20] [(20, .bool (true))] (by kernel_rfl) ?_
   exact fun a ha => ⟨true, ha, (hS.re [] [] rfl (sub_self)), H⟩
  rw [if_neg b4] at H
  refine EW.rg (by kernel_rfl) ?_
  refine EL.quick 2 [20] [(20, .bool (decide (a0 = 24)))] (by kernel_rfl) ?_
  refine EL.done (by kernel_rfl) ?_
  refine EQ.to ?_
  refine EQ.keep [20] [(20, .bool (decide (a0 = 24)))] (by kernel_rfl) ?_
  exact fun a ha => ⟨decide (a0 = 24), ha, (hS.re [] [] rfl (sub_self)), H⟩
 obtain ⟨a7, ha, hS, H⟩ := hI
 rw [c9] at H
 (try dsimp only at H)
 refine EW.at ?_ a ha
 clear ha a
 refine EW.cdP' (a7) (by kernel_rfl) (by kernel_rfl) (fun c4 => ?_) (fun c4 => ?_)
 ·rw [if_pos c4] at H
  refine EW.sq (by kernel_rfl) ?_
  refine EW.rg (by kernel_rfl) ?_
  refine EL.quick 1 [2] [(2, ia 6)] (by kernel_rfl) ?_
  refine EL.done (by kernel_rfl) ?_
  refine EQ.code ?_
  refine EW.ret (by kernel_rfl) ?_
  refine EQ.ret ?_
  refine EQ.ret ?_
  obtain rfl := Option.some.inj H
  exact EQ.leave (ia 6) (by kernel_rfl) ⟨_, rfl, rfl, (hS.re [] [] rfl (sub_self))⟩
 rw [if_neg c4] at H
 refine EW.skip (by kernel_rfl) ?_
 refine EQ.pop ?_
 refine EQ.code ?_
 refine EW.sq (by kernel_rfl) ?_
 refine EW.rg (by kernel_rfl) ?_
 refine EL.quick 1 [2] [(2, ia 0)] (by kernel_rfl) ?_
 refine EL.done (by kernel_rfl) ?_
 refine EQ.code ?_
 refine EW.ret (by kernel_rfl) ?_
 obtain rfl := Option.some.inj H
 exact EQ.leave (ia 0) (by kernel_rfl) ⟨_, rfl, rfl, (hS.re [] [] rfl (sub_self))⟩

/-! ### confidant/confidantseat.Instr: function 23 -/
def confidantseat_Instr.f (K : Nat) (a0 : Int) (a1 : Int) : Option (Int × Int) := b1 (confidantref5_Arg.f K (IntKind.i64.wrap ((Int.tmod (IntKind.i64.wrap a0) 26) + 1))) fun (a7 : Int) => (if a7 = 0 then (b2 (confidantseat_in.f K (IntKind.i64.wrap ((Int.tmod (IntKind.i64.wrap a0) 26) + 1)) 0) fun (a3 : Int) (a4 : Int) => (some (a3, a4))) else (b2 (confidantseat_in.f K (IntKind.i64.wrap ((Int.tmod (IntKind.i64.wrap a0) 26) + 1)) (IntKind.i64.wrap (Int.tmod a1 12))) fun (a5 : Int) (a6 : Int) => (some (a5, a6))))
set_option maxRecDepth 100000 in
theorem confidantseat_Instr.calls {K : Nat} {a0 : Int} {a1 : Int} {a9 : Int} {b0 : Int} {B w : World} {os : List Ass} {rs : List Ro} (H : confidantseat_Instr.f K a0 a1 = some (a9, b0)) (hS : St B w (os) (rs)) :
  Calls Try.prog 23 [ig a0, ig a1].toArray w (fun en w' => ∃ v, en = .returned v ∧ v = ag [ia a9, ib b0] ∧ St B w' (os) (rs)) := by
 unfold confidantseat_Instr.f at H
 refine calls_of_EW (args := [ig a0, ig a1]) (c := Cd23) 20 Try.func23 (by kernel_rfl) (by kernel_rfl) (by kernel_rfl) ?_
 refine EW.sq (by kernel_rfl) ?_
 refine EW.rg (by kernel_rfl) ?_
 refine EL.of (EO.alloc hS 32 (ag [ia 0, ib 0]) [ia 0, ib 0] 4 (by kernel_rfl) (by kernel_rfl) (by kernel_rfl) (by kernel_rfl) (by first | rfl | kernel_rfl) ?_)
 intro a2 w hS
 refine EL.done (by kernel_rfl) ?_
 refine EQ.code ?_
 refine EW.sq (by kernel_rfl) ?_
 refine EW.rg (by kernel_rfl) ?_
 refine EL.quick 5 [1, 4, 5] [(1, ig a1), (4, pt a2 0), (5, ia (IntKind.i64.wrap ((Int.tmod (IntKind.i64.wrap a0) 26) + 1)))] (by kernel_rfl) ?_
 refine EL.done (by kernel_rfl) ?_
 refine EQ.code ?_
 refine EW.sq (by kernel_rfl) ?_
 refine EW.sq (by kernel_rfl) ?_
 refine EW.rg (by kernel_rfl) ?_
 refine EL.quick 1 [1, 4, 5, 10] [(1, ig a1), (4, pt a2 0), (5, ia (IntKind.i64.wrap ((Int.tmod (IntKind.i64.wrap a0) 26) + 1))), (10, ia (IntKind.i64.wrap ((Int.tmod (IntKind.i64.wrap a0) 26) + 1)))] (by kernel_rfl) ?_
 obtain ⟨a7, b3, H⟩ := b1_out H
 have hq := confidantref5_Arg.calls b3 hS
 refine EL.of (EO.callD 24 [ia (IntKind.i64.wrap ((Int.tmod (IntKind.i64.wrap a0) 26) + 1))] _ 11 (by kernel_rfl) (by kernel_rfl) (by kernel_rfl) hq ?_)
 rintro v w ⟨rfl, hS⟩
 refine EL.quick 1 [1, 4, 5, 12] [(1, ig a1), (4, pt a2 0), (5, ia (IntKind.i64.wrap ((Int.tmod (IntKind.i64.wrap a0) 26) + 1))), (12, .bool (decide (a7 = 0)))] (by kernel_rfl) ?_
 refine EL.done (by kernel_rfl) ?_
 refine EQ.code ?_
 refine EW.cdP (a7 = 0) (by kernel_rfl) (by kernel_rfl) (fun a8 => ?_) (fun a8 => ?_)
 ·rw [if_pos a8] at H
  refine EW.sq (by kernel_rfl) ?_
  refine EW.rg (by kernel_rfl) ?_
  refine EL.quick 1 [4, 13] [(4, pt a2 0), (13, ia (IntKind.i64.wrap ((Int.tmod (IntKind.i64.wrap a0) 26) + 1)))] (by kernel_rfl) ?_
  obtain ⟨a3, a4, b4, H⟩ := b2_out H
  have hq := confidantseat_in.calls b4 hS
  refine EL.of (EO.callD 41 [ia (IntKind.i64.wrap ((Int.tmod (IntKind.i64.wrap a0) 26) + 1)), ia 0] _ 14 (by kernel_rfl) (by kernel_rfl) (by kernel_rfl) hq ?_)
  rintro v w ⟨rfl, hS⟩
  refine EL.of (EO.storeBox (os' := Ass.box 32 a2 [ia a3, ib a4] :: os) hS 0 rfl 32 0 (ag [ia a3, ib a4]) [ia a3, ib a4] (by kernel_rfl) (by kernel_rfl) (by kernel_rfl) (by kernel_rfl) (by kernel_rfl) (by kernel_rfl) rfl rfl ?_)
  intro w hS
  refine EL.done (by kernel_rfl) ?_
  refine EQ.code ?_
  refine EW.ret (by kernel_rfl) ?_
  refine EQ.ret ?_
  simp only [Option.some.injEq, Prod.mk.injEq] at H
  obtain ⟨rfl, rfl⟩ := H
  exact EQ.leaveC hS 0 rfl 4 32 0 2 (ag [ia a3, ib a4]) (by kernel_rfl) (by kernel_rfl) (by kernel_rfl) ⟨_, rfl, rfl, (hS.re [] [0] rfl (sub_self))⟩
 rw [if_neg a8] at H
 refine EW.skip (by kernel_rfl) ?_
 refine EQ.code ?_
 refine EW.sq (by kernel_rfl) ?_
 refine EW.rg (by kernel_rfl) ?_
 refine EL.quick 4 [4, 15, 18] [(4, pt a2 0), (15, ia (IntKind.i64.wrap ((Int.tmod (IntKind.i64.wrap a0) 26) + 1))), (18, ia (IntKind.i64.wrap (Int.tmod a1 12)))] (by kernel_rfl) ?_
 obtain ⟨a5, a6, b5, H⟩ := b2_out H
 have hq := confidantseat_in.calls b5 hS
 refine EL.of (EO.callD 41 [ia (IntKind.i64.wrap ((Int.tmod (IntKind.i64.wrap a0) 26) + 1)), ia (IntKind.i64.wrap (Int.tmod a1 12))] _ 19 (by kernel_rfl) (by kernel_rfl) (by kernel_rfl) hq ?_)
 rintro v w ⟨rfl, hS⟩
 refine EL.of (EO.storeBox (os' := Ass.box 32 a2 [ia a5, ib a6] :: os) hS 0 rfl 32 0 (ag [ia a5, ib a6]) [ia a5, ib a6] (by kernel_rfl) (by kernel_rfl) (by kernel_rfl) (by kernel_rfl) (by kernel_rfl) (by kernel_rfl) rfl rfl ?_)
 intro w hS
 refine EL.done (by kernel_rfl) ?_
 refine EQ.code ?_
 refine EW.ret (by kernel_rfl) ?_
 simp only [Option.some.injEq, Prod.mk.injEq] at H
 obtain ⟨rfl, rfl⟩ := H
 exact EQ.leaveC hS 0 rfl 4 32 0 2 (ag [ia a5, ib a6]) (by kernel_rfl) (by kernel_rfl) (by kernel_rfl) ⟨_, rfl, rfl, (hS.re [] [0] rfl (sub_self))⟩

/-! ### confidant/confidantref9.Child: function 35 -/
def confidantref9_Child.f (K : Nat) (a0 : S58) (a1 : Int) (a2 : Int) (a3 : Int) (a4 : Int) : Option S58 := b1 (confidantref9_New.f K a1 (⟨a2, a3, a0.f5, a4, a0.f7, a0.f8⟩ : S71)) fun (a8 : S58) => (some a8)
set_option maxRecDepth 100000 in
theorem confidantref9_Child.calls {K : Nat} {a0 : S58} {a1 : Int} {a2 : Int} {a3 : Int} {a4 : Int} {a5 : Option Addr} {a6 : Nat} {b3 : S58} {B w : World} {os : List Ass} {rs : List Ro} (H : confidantref9_Child.f K a0 a1 a2 a3 a4 = some b3) (hS : St B w (os) (Ro.sl (Kd.int .i32) a5 a6 a0.f3 :: rs)) :
  Calls Try.prog 35 [ag (cellsS58 a0 (a5, a6)), ib a1, ia a2, ib a3, ia a4].toArray w (fun en w' => ∃ v, en = .returned v ∧ ∃ b4 : Option Addr, ∃ b5 : Nat, v = ag (cellsS58 b3 (b4, b5)) ∧ St B w' (os) (Ro.sl (Kd.int .i32) b4 b5 b3.f3 :: Ro.sl (Kd.int .i32) a5 a6 a0.f3 :: rs)) := by
 unfold confidantref9_Child.f at H
 refine calls_of_EW (args := [ag (cellsS58 a0 (a5, a6)), ib a1, ia a2, ib a3, ia a4]) (c := Cd35) 23 Try.func35 (by kernel_rfl) (by kernel_rfl) (by kernel_rfl) ?_
 refine EW.sq (by kernel_rfl) ?_
 refine EW.rg (by kernel_rfl) ?_
 refine EL.of (EO.box hS 58 (ag (cellsS58 a0 (a5, a6))) (cellsS58 a0 (a5, a6)) 5 (by kernel_rfl) (by kernel_rfl) (by kernel_rfl) (by first | rfl | kernel_rfl) ?_)
 intro a7 w hS
 refine EL.of (EO.alloc hS 58 (ag (cellsS58 zS58 (none, 0))) (cellsS58 zS58 (none, 0)) 10 (by kernel_rfl) (by kernel_rfl) (by kernel_rfl) (by kernel_rfl) (by first | rfl | kernel_rfl) ?_)
 intro b2 w hS
 refine EL.done (by kernel_rfl) ?_
 refine EQ.code ?_
 refine EW.sq (by kernel_rfl) ?_
 refine EW.rg (by kernel_rfl) ?_
 refine EL.quick 4 [4, 5, 10, 11, 12, 13, 14] [(4, ia a4), (5, pt a7 0), (10, pt b2 0), (11, ib a1), (12, ia a2), (13, ib a3), (14, pt a7 8)] (by kernel_rfl) ?_
 refine EL.of (EO.Y (YO.loadBox hS 1 rfl 3 8 1 (ia a0.f5) 15 (by kernel_rfl) (by kernel_rfl) (by kernel_rfl) (by kernel_rfl)) ?_)
 refine EL.quick 2 [5, 10, 11, 12, 13, 15, 16, 17] [(5, pt a7 0), (10, pt b2 0), (11, ib a1), (12, ia a2), (13, ib a3), (15, ia a0.f5), (16, ia a4), (17, pt a7 10)] (by kernel_rfl) ?_
 refine EL.of (EO.Y (YO.loadBox hS 1 rfl 56 10 1 (ie a0.f7) 18 (by kernel_rfl) (by kernel_rfl) (by kernel_rfl) (by kernel_rfl)) ?_)
 refine EL.quick 1 [10, 11, 12, 13, 15, 16, 18, 19] [(10, pt b2 0), (11, ib a1), (12, ia a2), (13, ib a3), (15, ia a0.f5), (16, ia a4), (18, ie a0.f7), (19, pt a7 11)] (by kernel_rfl) ?_
 refine EL.of (EO.Y (YO.loadBox hS 1 rfl 3 11 1 (ia a0.f8) 20 (by kernel_rfl) (by kernel_rfl) (by kernel_rfl) (by kernel_rfl)) ?_)
 refine EL.quick 1 [10, 11, 21] [(10, pt b2 0), (11, ib a1), (21, ag [ia a2, ib a3, ia a0.f5, ia a4, ie a0.f7, ia a0.f8])] (by kernel_rfl) ?_
 obtain ⟨a8, b6, H⟩ := b1_out H
 have hq := confidantref9_New.calls b6 hS
 refine EL.of (EO.callD 37 [ib a1, ag [ia a2, ib a3, ia a0.f5, ia a4, ie a0.f7, ia a0.f8]] _ 22 (by kernel_rfl) (by kernel_rfl) (by kernel_rfl) hq ?_)
 rintro v w ⟨a9, b0, rfl, hS⟩
 refine EL.of (EO.storeBox (os' := Ass.box 58 b2 (cellsS58 a8 (a9, b0)) :: Ass.box 58 a7 (cellsS58 a0 (a5, a6)) :: os) hS 0 rfl 58 0 (ag (cellsS58 a8 (a9, b0))) (cellsS58 a8 (a9, b0)) (by kernel_rfl) (by kernel_rfl) (by kernel_rfl) (by kernel_rfl) (by kernel_rfl) (by kernel_rfl) rfl rfl ?_)
 intro w hS
 refine EL.done (by kernel_rfl) ?_
 refine EQ.code ?_
 refine EW.ret (by kernel_rfl) ?_
 obtain rfl := Option.some.inj H
 exact EQ.leaveC hS 0 rfl 10 58 0 12 (ag (cellsS58 a8 (a9, b0))) (by kernel_rfl) (by kernel_rfl) (by kernel_rfl) ⟨_, rfl, a9, b0, rfl, (hS.re [] [0, 0] rfl (sub_cons 0 rfl (sub_tail (sub_self))))⟩

end Go.Proofs.Ytlcnkngpankkpaa.G
