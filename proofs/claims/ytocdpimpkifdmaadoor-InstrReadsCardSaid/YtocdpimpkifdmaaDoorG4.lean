import Derived.Test.YtocdpimpkifdmaaDoorProg
import Derived.Test.YtocdpimpkifdmaaDoorFwShort
import Derived.Test.YtocdpimpkifdmaaDoorFwOpen
import Derived.Test.YtocdpimpkifdmaaDoorFwStr
import Derived.Test.YtocdpimpkifdmaaDoorG2
namespace Go.Proofs.YtocdpimpkifdmaaDoor.G
open Go Go.Fw Go.RowKit Go.Proofs
set_option linter.unusedVariables false
set_option linter.unusedSimpArgs false

noncomputable def Cd10 : Code := bodyOf Tryd.f10

noncomputable def Cd41 : Code := bodyOf Tryd.f41

noncomputable def Cd42 : Code := bodyOf Tryd.f42

noncomputable def Cd61 : Code := bodyOf Tryd.f61

noncomputable def Cd62 : Code := bodyOf Tryd.f62

noncomputable def Cd75 : Code := bodyOf Tryd.f75

noncomputable def Cd82 : Code := bodyOf Tryd.f82

/-! ### confidant/confidantref5.Find: function 75 -/
def confidantref5_Find.l0 (K : Nat) (a0 : List ByteArray) (a2 : ByteArray) : Nat → Int → Option (Int × Bool)
 | 0, _ => none
 | n + 1, a1 => if a1 < (a0.length : Int) then (if 0 ≤ a1 then (if ((a0.getD a1.toNat ⟨#[]⟩).toList == a2.toList) = true then (some (IntKind.i64.wrap (a1 + 1), true)) else (confidantref5_Find.l0 K a0 a2 n (IntKind.i64.wrap (a1 + 1)))) else none) else (some (0, false))
def confidantref5_Find.f (K : Nat) (a2 : ByteArray) : Option (Int × Bool) := b1 (confidantref5_names.f K) fun (a0 : List ByteArray) => (confidantref5_Find.l0 K a0 a2 K 0)
set_option maxRecDepth 100000 in
theorem confidantref5_Find.calls {K : Nat} {a2 : ByteArray} {a9 : Int} {b0 : Bool} {B w : World} {os : List Ass} {rs : List Ro} (H : confidantref5_Find.f K a2 = some (a9, b0)) (hS : St B w (os) (rs)) :
  Calls Tryd.prog 75 [.string a2].toArray w (fun en w' => ∃ v, en = .returned v ∧ v = .tuple #[ia a9, .bool (b0)] ∧ St B w' (os) (rs)) := by
 unfold confidantref5_Find.f at H
 refine calls_of_EW (args := [.string a2]) (c := Cd75) 21 Tryd.func75 (by kernel_rfl) (by kernel_rfl) (by kernel_rfl) ?_
 refine EW.sq (by kernel_rfl) ?_
 refine EW.rg (by kernel_rfl) ?_
 refine EL.quick 2 [0] [(0, .string a2)] (by kernel_rfl) ?_
 refine EL.done (by kernel_rfl) ?_
 refine EQ.code ?_
 refine EW.sq (by kernel_rfl) ?_
 refine EW.rg (by kernel_rfl) ?_
 obtain ⟨a0, b2, H⟩ := b1_out H
 have hq := confidantref5_names.calls b2 hS
 refine EL.of (EO.callD 90 [] _ 6 (by kernel_rfl) (by kernel_rfl) (by kernel_rfl) hq ?_)
 rintro v w ⟨a4, a3, rfl, hS⟩
 refine EL.quick 1 [0, 4] [(0, .string a2), (4, sv a4 a3 a0)] (by kernel_rfl) ?_
 refine EL.done (by kernel_rfl) ?_
 refine EQ.code ?_
 refine EW.sq (by kernel_rfl) ?_
 refine EW.sq (by kernel_rfl) ?_
 refine EW.rg (by kernel_rfl) ?_
 refine EL.quick 1 [0, 4, 5] [(0, .string a2), (4, sv a4 a3 a0), (5, ia 0)] (by kernel_rfl) ?_
 refine EL.done (by kernel_rfl) ?_
 refine EQ.code ?_
 refine EW.bl 0 (by kernel_rfl) ?_
 refine EW.lp (fun n a w => ∃ a1 : Int, Sat 21 [(0, .string a2), (4, sv a4 a3 a0), (5, ia a1)] a ∧ St B w (Ass.own 9 Kd.str a4 a3 a0 :: os) (rs) ∧ confidantref5_Find.l0 K a0 a2 n a1 = some (a9, b0)) K (by kernel_rfl) ?_ (fun n a w hI => ?_)
 ·refine EQ.keep [0, 4, 5] [(0, .string a2), (4, sv a4 a3 a0), (5, ia 0)] (by kernel_rfl) ?_
  exact fun a ha => ⟨0, ha, (hS.re [0] [] rfl (sub_self)), H⟩
 obtain ⟨a1, ha, hS, H⟩ := hI
 obtain _ | n := n
 ·simp [confidantref5_Find.l0] at H
 rw [confidantref5_Find.l0.eq_2] at H
 refine EW.at ?_ a ha
 clear ha a
 refine EW.sq (by kernel_rfl) ?_
 refine EW.sq (by kernel_rfl) ?_
 refine EW.rg (by kernel_rfl) ?_
 refine EL.quick 4 [0, 4, 5, 10] [(0, .string a2), (4, sv a4 a3 a0), (5, ia a1), (10, .bool (decide (a1 < (a0.length : Int))))] (by kernel_rfl) ?_
 refine EL.done (by kernel_rfl) ?_
 refine EQ.code ?_
 refine EW.cdP (a1 < (a0.length : Int)) (by kernel_rfl) (by kernel_rfl) (fun a5 => ?_) (fun a5 => ?_)
 ·rw [if_pos a5] at H
  refine EW.skip (by kernel_rfl) ?_
  refine EQ.code ?_
  refine EW.sq (by kernel_rfl) ?_
  refine EW.bl 1 (by kernel_rfl) ?_
  refine EW.sq (by kernel_rfl) ?_
  refine EW.rg (by kernel_rfl) ?_
  refine EL.quick 2 [0, 4, 5, 13, 14] [(0, .string a2), (4, sv a4 a3 a0), (5, ia a1), (13, sv a4 a3 a0), (14, ia a1)] (by kernel_rfl) ?_
  obtain ⟨a7, H⟩ := ite_in H
  obtain ⟨a6, rfl⟩ := St.rd_some hS (Rd.own 0 9 rfl) a7 a5
  refine EL.of (EO.Y (YO.idx 68 1 a6 a0.length a3 .i64 a1 15 (by kernel_rfl) (by kernel_rfl) (by kernel_rfl) (by kernel_rfl) a7 a5) ?_)
  refine EL.of (EO.Y (YO.loadEl hS Kd.str a6 a3 a0 (Rd.own 0 9 rfl) ⟨#[]⟩ encS encS_of a1 a7 a5 9 1 0 1 rfl (.string (a0.getD a1.toNat ⟨#[]⟩)) 16 (by kernel_rfl) (by kernel_rfl) (by kernel_rfl) (by kernel_rfl)) ?_)
  refine EL.quick 2 [0, 4, 5, 18] [(0, .string a2), (4, sv (some a6) a3 a0), (5, ia a1), (18, .bool (((a0.getD a1.toNat ⟨#[]⟩).toList == a2.toList)))] (by kernel_rfl) ?_
  refine EL.done (by kernel_rfl) ?_
  refine EQ.code ?_
  refine EW.cdP' (((a0.getD a1.toNat ⟨#[]⟩).toList == a2.toList)) (by kernel_rfl) (by kernel_rfl) (fun a8 => ?_) (fun a8 => ?_)
  ·rw [if_pos a8] at H
   refine EW.sq (by kernel_rfl) ?_
   refine EW.rg (by kernel_rfl) ?_
   refine EL.quick 4 [2, 3] [(2, ia (IntKind.i64.wrap (a1 + 1))), (3, .bool (true))] (by kernel_rfl) ?_
   refine EL.done (by kernel_rfl) ?_
   refine EQ.code ?_
   refine EW.ret (by kernel_rfl) ?_
   refine EQ.ret ?_
   refine EQ.ret ?_
   refine EQ.ret ?_
   refine EQ.ret ?_
   refine EQ.ret ?_
   simp only [sv, Option.some.injEq, Prod.mk.injEq] at H
   obtain ⟨rfl, rfl⟩ := H
   exact EQ.leave (.tuple #[ia (IntKind.i64.wrap (a1 + 1)), .bool (true)]) (by kernel_rfl) ⟨_, rfl, rfl, (hS.re [] [0] rfl (sub_self))⟩
  rw [if_neg a8] at H
  refine EW.skip (by kernel_rfl) ?_
  refine EQ.pop ?_
  refine EQ.code ?_
  refine EW.rg (by kernel_rfl) ?_
  refine EL.quick 3 [0, 4, 5] [(0, .string a2), (4, sv (some a6) a3 a0), (5, ia (IntKind.i64.wrap (a1 + 1)))] (by kernel_rfl) ?_
  refine EL.done (by kernel_rfl) ?_
  refine EQ.to ?_
  refine EQ.keep [0, 4, 5] [(0, .string a2), (4, sv (some a6) a3 a0), (5, ia (IntKind.i64.wrap (a1 + 1)))] (by kernel_rfl) ?_
  exact fun a ha => ⟨n, Nat.lt_succ_self n, IntKind.i64.wrap (a1 + 1), ha, (hS.re [0] [] rfl (sub_self)), H⟩
 rw [if_neg a5] at H
 refine EW.exit (id := 0) (by kernel_rfl) ?_
 refine EQ.exitCode ?_
 refine EQ.exitTo ?_
 refine EQ.exitHere ?_
 refine EQ.code ?_
 refine EW.sq (by kernel_rfl) ?_
 refine EW.rg (by kernel_rfl) ?_
 refine EL.quick 2 [2, 3] [(2, ia 0), (3, .bool (false))] (by kernel_rfl) ?_
 refine EL.done (by kernel_rfl) ?_
 refine EQ.code ?_
 refine EW.ret (by kernel_rfl) ?_
 simp only [sv, Option.some.injEq, Prod.mk.injEq] at H
 obtain ⟨rfl, rfl⟩ := H
 exact EQ.leave (.tuple #[ia 0, .bool (false)]) (by kernel_rfl) ⟨_, rfl, rfl, (hS.re [] [0] rfl (sub_self))⟩

/-! ### confidant/confidantref5.Parse: function 41 -/
def confidantref5_Parse.l2 (K : Nat) (a2 : List Int) (a3 : Int) (a0 : ByteArray) (b9 : (List Int) → Option (Int × Int × Bool)) : Nat → Int → Option (Int × Int × Bool)
 | 0, _ => none
 | n + 1, a5 => if a5 < (a2.length : Int) then (lt (confidantref5_Parse.l2 K a2 a3 a0 b9 n (IntKind.i64.wrap (a5 + 1))) fun d6 => (if 0 ≤ a5 then (lt (fun (c4 : Bool) => (if c4 = true then (b1 (confidantref5_Text.f K a3 (IntKind.i32.wrap (a2.getD a5.toNat 0))) fun (d8 : ByteArray) => (if (d8.toList == a0.toList) = true then (some (a3, IntKind.i32.wrap (a2.getD a5.toNat 0), true)) else (d6))) else (d6))) fun d7 => (if (a2.getD a5.toNat 0) ≥ (-2147483648) then (d7 (decide ((a2.getD a5.toNat 0) ≤ 2147483647))) else (d7 false))) else none)) else (b9 a2)
def confidantref5_Parse.l1 (K : Nat) (a0 : ByteArray) (b8 : Int → Option (Int × Int × Bool)) (a6 : Int) : Nat → Int → Int → Option (Int × Int × Bool)
 | 0, _, _ => none
 | n + 1, a8, a4 => lt (fun (c2 : Bool) => (if c2 = true then (lt (fun (b6 : Int) => (confidantref5_Parse.l1 K a0 b8 a6 n b6 (IntKind.i64.wrap (a4 + 1)))) fun d4 => (lt (fun (c3 : Bool) => (if c3 = true then (if 0 ≤ a4 then (if a4 < (a0.size : Int) then (lt (IntKind.i64.wrap ((IntKind.i64.wrap (10 * a8)) + (IntKind.i64.wrap (IntKind.u8.wrap ((sAt a0 a4) - 48))))) fun c8 => (d4 c8)) else none) else none) else (d4 a8))) fun d5 => (if 0 ≤ a4 then (if a4 < (a0.size : Int) then (if (sAt a0 a4) ≥ 48 then (d5 (decide ((sAt a0 a4) ≤ 57))) else (d5 false)) else none) else none))) else (b8 a8))) fun d3 => (if a4 < (a0.size : Int) then (d3 (decide (a4 < (IntKind.i64.wrap (a6 + 13))))) else (d3 false))
def confidantref5_Parse.l0 (K : Nat) (b7 : Int → Option (Int × Int × Bool)) (a0 : ByteArray) : Nat → Int → Option (Int × Int × Bool)
 | 0, _ => none
 | n + 1, a7 => lt (fun (c1 : Bool) => (if c1 = true then (confidantref5_Parse.l0 K b7 a0 n (IntKind.i64.wrap (a7 + 1))) else (b7 a7))) fun d2 => (if a7 < (a0.size : Int) then (if 0 ≤ a7 then (d2 (!(decide ((sAt a0 a7) = 32)))) else none) else (d2 false))
def confidantref5_Parse.f (K : Nat) (a0 : ByteArray) : Option (Int × Int × Bool) := lt (fun (a6 : Int) => (if 0 ≤ a6 then (if a6 ≤ (a0.size : Int) then (b2 (confidantref5_Find.f K (a0.extract 0 a6.toNat)) fun (a3 : Int) (c0 : Bool) => (if c0 = true then (lt (fun (b0 : Int) => (lt (fun (c7 : List Int) => (some (0, 0, false))) fun b9 => (lt ([b0, IntKind.i64.wrap (0 - b0)] : List Int) fun a2 => (confidantref5_Parse.l2 K a2 a3 a0 b9 K 0)))) fun b8 => (confidantref5_Parse.l1 K a0 b8 a6 K 0 (IntKind.i64.wrap (a6 + 1)))) else (some (0, 0, false)))) else none) else none)) fun b7 => (confidantref5_Parse.l0 K b7 a0 K 0)
set_option maxRecDepth 100000 in
theorem confidantref5_Parse.calls {K : Nat} {a0 : ByteArray} {b3 : Int} {b4 : Int} {b5 : Bool} {B w : World} {os : List Ass} {rs : List Ro} (H : confidantref5_Parse.f K a0 = some (b3, b4, b5)) (hS : St B w (os) (rs)) :
  Calls Tryd.prog 41 [.string a0].toArray w (fun en w' => ∃ v, en = .returned v ∧ v = .tuple #[ag [ia b3, ib b4], .bool (b5)] ∧ St B w' (os) (rs)) := by
 unfold confidantref5_Parse.f at H
 refine calls_of_EW (args := [.string a0]) (c := Cd41) 92 Tryd.func41 (by kernel_rfl) (by kernel_rfl) (by kernel_rfl) ?_
 refine EW.sq (by kernel_rfl) ?_
 refine EW.rg (by kernel_rfl) ?_
 refine EL.of (EO.alloc hS 54 (ag [ia 0, ib 0]) [ia 0, ib 0] 2 (by kernel_rfl) (by kernel_rfl) (by kernel_rfl) (by kernel_rfl) (by first | rfl | kernel_rfl) ?_)
 intro a1 w hS
 refine EL.quick 1 [0, 2] [(0, .string a0), (2, pt a1 0)] (by kernel_rfl) ?_
 refine EL.done (by kernel_rfl) ?_
 refine EQ.code ?_
 refine EW.sq (by kernel_rfl) ?_
 refine EW.rg (by kernel_rfl) ?_
 refine EL.quick 1 [0, 2, 4] [(0, .string a0), (2, pt a1 0), (4, ia 0)] (by kernel_rfl) ?_
 refine EL.done (by kernel_rfl) ?_
 refine EQ.code ?_
 obtain ⟨b7, f7, H⟩ := lt_out H
 refine EW.ct (fun a w => ∃ a6 : Int, Sat 92 [(0, .string a0), (2, pt a1 0), (4, ia a6)] a ∧ St B w (Ass.box 54 a1 [ia 0, ib 0] :: os) (rs) ∧ b7 a6 = some (b3, b4, b5)) (by kernel_rfl) ?_ (fun a w hI => ?_)
 ·refine EW.bl 0 (by kernel_rfl) ?_
  refine EW.lp (fun n a w => ∃ a7 : Int, Sat 92 [(0, .string a0), (2, pt a1 0), (4, ia a7)] a ∧ St B w (Ass.box 54 a1 [ia 0, ib 0] :: os) (rs) ∧ confidantref5_Parse.l0 K b7 a0 n a7 = some (b3, b4, b5)) K (by kernel_rfl) ?_ (fun n a w hI => ?_)
  ·refine EQ.keep [0, 2, 4] [(0, .string a0), (2, pt a1 0), (4, ia 0)] (by kernel_rfl) ?_
   exact fun a ha => ⟨0, ha, (hS.re [0] [] rfl (sub_self)), H⟩
  obtain ⟨a7, ha, hS, H⟩ := hI
  obtain _ | n := n
  ·simp [confidantref5_Parse.l0] at H
  rw [confidantref5_Parse.l0.eq_2] at H
  refine EW.at ?_ a ha
  clear ha a
  refine EW.sq (by kernel_rfl) ?_
  obtain ⟨d2, f8, H⟩ := lt_out H
  refine EW.ct (fun a w => ∃ c1 : Bool, Sat 92 [(0, .string a0), (2, pt a1 0), (4, ia a7), (21, .bool (c1))] a ∧ St B w (Ass.box 54 a1 [ia 0, ib 0] :: os) (rs) ∧ d2 c1 = some (b3, b4, b5)) (by kernel_rfl) ?_ (fun a w hI => ?_)
  ·refine EW.rg (by kernel_rfl) ?_
   refine EL.quick 5 [0, 2, 4, 16] [(0, .string a0), (2, pt a1 0), (4, ia a7), (16, .bool (decide (a7 < (a0.size : Int))))] (by kernel_rfl) ?_
   by_cases c5 : a7 < (a0.size : Int)
   ·rw [if_pos c5] at H
    refine EL.keep [0, 2, 4, 16] [(0, .string a0), (2, pt a1 0), (4, ia a7), (16, .bool (decide (a7 < (a0.size : Int))))] (by kernel_rfl) ?_
    refine EL.as' [(0, .string a0), (2, pt a1 0), (4, ia a7), (16, .bool (true))] (by simp only [sv, dec_t c5, Bool.not_true, Bool.not_false]) ?_
    refine EL.quick 2 [0, 2, 4, 16, 17, 18] [(0, .string a0), (2, pt a1 0), (4, ia a7), (16, .bool (true)), (17, .string a0), (18, ia a7)] (by kernel_rfl) ?_
    obtain ⟨f2, H⟩ := ite_in H
    refine EL.of (EO.Y (YO.strIdx a0 9 .i64 a7 19 (by kernel_rfl) (by kernel_rfl) (by kernel_rfl) (by kernel_rfl) f2 c5) ?_)
    refine EL.quick 2 [0, 2, 4, 17, 18, 19, 20, 21] [(0, .string a0), (2, pt a1 0), (4, ia a7), (17, .string a0), (18, ia a7), (19, ig (sAt a0 a7)), (20, .bool (!(decide ((sAt a0 a7) = 32)))), (21, .bool (!(decide ((sAt a0 a7) = 32))))] (by kernel_rfl) ?_
    refine EL.done (by kernel_rfl) ?_
    refine EQ.to ?_
    refine EQ.keep [0, 2, 4, 21] [(0, .string a0), (2, pt a1 0), (4, ia a7), (21, .bool (!(decide ((sAt a0 a7) = 32))))] (by kernel_rfl) ?_
    exact fun a ha => ⟨!(decide ((sAt a0 a7) = 32)), ha, (hS.re [0] [] rfl (sub_self)), H⟩
   rw [if_neg c5] at H
   refine EL.keep [0, 2, 4, 16] [(0, .string a0), (2, pt a1 0), (4, ia a7), (16, .bool (decide (a7 < (a0.size : Int))))] (by kernel_rfl) ?_
   refine EL.as' [(0, .string a0), (2, pt a1 0), (4, ia a7), (16, .bool (false))] (by simp only [sv, dec_f c5, Bool.not_true, Bool.not_false]) ?_
   refine EL.quick 5 [0, 2, 4, 21] [(0, .string a0), (2, pt a1 0), (4, ia a7), (21, .bool (false))] (by kernel_rfl) ?_
   refine EL.done (by kernel_rfl) ?_
   refine EQ.to ?_
   refine EQ.keep [0, 2, 4, 21] [(0, .string a0), (2, pt a1 0), (4, ia a7), (21, .bool (false))] (by kernel_rfl) ?_
   exact fun a ha => ⟨false, ha, (hS.re [0] [] rfl (sub_self)), H⟩
  obtain ⟨c1, ha, hS, H⟩ := hI
  rw [f8] at H
  (try dsimp only at H)
  refine EW.at ?_ a ha
  clear ha a
  refine EW.cdP' (c1) (by kernel_rfl) (by kernel_rfl) (fun e2 => ?_) (fun e2 => ?_)
  ·rw [if_pos e2] at H
   refine EW.skip (by kernel_rfl) ?_
   refine EQ.code ?_
   refine EW.bl 1 (by kernel_rfl) ?_
   refine EW.rg (by kernel_rfl) ?_
   refine EL.quick 3 [0, 2, 4] [(0, .string a0), (2, pt a1 0), (4, ia (IntKind.i64.wrap (a7 + 1)))] (by kernel_rfl) ?_
   refine EL.done (by kernel_rfl) ?_
   refine EQ.pop ?_
   refine EQ.to ?_
   refine EQ.keep [0, 2, 4] [(0, .string a0), (2, pt a1 0), (4, ia (IntKind.i64.wrap (a7 + 1)))] (by kernel_rfl) ?_
   exact fun a ha => ⟨n, Nat.lt_succ_self n, IntKind.i64.wrap (a7 + 1), ha, (hS.re [0] [] rfl (sub_self)), H⟩
  rw [if_neg e2] at H
  refine EW.exit (id := 0) (by kernel_rfl) ?_
  refine EQ.exitCode ?_
  refine EQ.exitTo ?_
  refine EQ.exitHere ?_
  refine EQ.to ?_
  refine EQ.keep [0, 2, 4] [(0, .string a0), (2, pt a1 0), (4, ia a7)] (by kernel_rfl) ?_
  exact fun a ha => ⟨a7, ha, (hS.re [0] [] rfl (sub_self)), H⟩
 obtain ⟨a6, ha, hS, H⟩ := hI
 rw [f7] at H
 (try dsimp only at H)
 refine EW.at ?_ a ha
 clear ha a
 refine EW.sq (by kernel_rfl) ?_
 refine EW.rg (by kernel_rfl) ?_
 refine EL.quick 2 [0, 2, 4, 25, 26] [(0, .string a0), (2, pt a1 0), (4, ia a6), (25, .string a0), (26, ia a6)] (by kernel_rfl) ?_
 obtain ⟨g7, H⟩ := ite_in H
 obtain ⟨g8, H⟩ := ite_in H
 refine EL.of (EO.Y (YO.strSlice a0 none (some (ia a6)) 0 a6.toNat 9 27 (by kernel_rfl) (by kernel_rfl) (by kernel_rfl) (by kernel_rfl) (rfl) ((Int.toNat_of_nonneg (by omega)).symm) (by omega) (by omega)) ?_)
 obtain ⟨a3, c0, f5, H⟩ := b2_out H
 have hq := confidantref5_Find.calls f5 hS
 refine EL.of (EO.callD 75 [.string (a0.extract 0 a6.toNat)] _ 28 (by kernel_rfl) (by kernel_rfl) (by kernel_rfl) hq ?_)
 rintro v w ⟨rfl, hS⟩
 refine EL.quick 5 [0, 2, 4, 5, 6] [(0, .string a0), (2, pt a1 0), (4, ia a6), (5, ia a3), (6, .bool (c0))] (by kernel_rfl) ?_
 refine EL.done (by kernel_rfl) ?_
 refine EQ.code ?_
 refine EW.sq (by kernel_rfl) ?_
 refine EW.sq (by kernel_rfl) ?_
 refine EW.rg (by kernel_rfl) ?_
 refine EL.quick 2 [0, 2, 4, 5, 32] [(0, .string a0), (2, pt a1 0), (4, ia a6), (5, ia a3), (32, .bool (!(c0)))] (by kernel_rfl) ?_
 refine EL.done (by kernel_rfl) ?_
 refine EQ.code ?_
 refine EW.cdQ (b := !(c0)) (c0 = true) (false) (by kernel_rfl) (by kernel_rfl) ⟨fun h => (by rw [h] <;> rfl), fun h => (by rw [Bool.eq_false_iff.2 h] <;> rfl)⟩ (fun e3 => ?_) (fun e3 => ?_)
 ·rw [if_pos e3] at H
  refine EW.skip (by kernel_rfl) ?_
  refine EQ.code ?_
  refine EW.sq (by kernel_rfl) ?_
  refine EW.rg (by kernel_rfl) ?_
  refine EL.quick 1 [0, 2, 4, 5, 7] [(0, .string a0), (2, pt a1 0), (4, ia a6), (5, ia a3), (7, ia 0)] (by kernel_rfl) ?_
  refine EL.done (by kernel_rfl) ?_
  refine EQ.code ?_
  obtain ⟨b8, f9, H⟩ := lt_out H
  refine EW.ct (fun a w => ∃ b0 : Int, Sat 92 [(0, .string a0), (2, pt a1 0), (5, ia a3), (7, ia b0)] a ∧ St B w (Ass.box 54 a1 [ia 0, ib 0] :: os) (rs) ∧ b8 b0 = some (b3, b4, b5)) (by kernel_rfl) ?_ (fun a w hI => ?_)
  ·refine EW.sq (by kernel_rfl) ?_
   refine EW.rg (by kernel_rfl) ?_
   refine EL.quick 3 [0, 2, 4, 5, 7, 8] [(0, .string a0), (2, pt a1 0), (4, ia a6), (5, ia a3), (7, ia 0), (8, ia (IntKind.i64.wrap (a6 + 1)))] (by kernel_rfl) ?_
   refine EL.done (by kernel_rfl) ?_
   refine EQ.code ?_
   refine EW.bl 2 (by kernel_rfl) ?_
   refine EW.lp (fun n a w => ∃ a8 : Int, ∃ a4 : Int, Sat 92 [(0, .string a0), (2, pt a1 0), (4, ia a6), (5, ia a3), (7, ia a8), (8, ia a4)] a ∧ St B w (Ass.box 54 a1 [ia 0, ib 0] :: os) (rs) ∧ confidantref5_Parse.l1 K a0 b8 a6 n a8 a4 = some (b3, b4, b5)) K (by kernel_rfl) ?_ (fun n a w hI => ?_)
   ·refine EQ.keep [0, 2, 4, 5, 7, 8] [(0, .string a0), (2, pt a1 0), (4, ia a6), (5, ia a3), (7, ia 0), (8, ia (IntKind.i64.wrap (a6 + 1)))] (by kernel_rfl) ?_
    exact fun a ha => ⟨0, IntKind.i64.wrap (a6 + 1), ha, (hS.re [0] [] rfl (sub_self)), H⟩
   obtain ⟨a8, a4, ha, hS, H⟩ := hI
   obtain _ | n := n
   ·simp [confidantref5_Parse.l1] at H
   rw [confidantref5_Parse.l1.eq_2] at H
   refine EW.at ?_ a ha
   clear ha a
   refine EW.sq (by kernel_rfl) ?_
   obtain ⟨d3, g0, H⟩ := lt_out H
   refine EW.ct (fun a w => ∃ c2 : Bool, Sat 92 [(0, .string a0), (2, pt a1 0), (4, ia a6), (5, ia a3), (7, ia a8), (8, ia a4), (45, .bool (c2))] a ∧ St B w (Ass.box 54 a1 [ia 0, ib 0] :: os) (rs) ∧ d3 c2 = some (b3, b4, b5)) (by kernel_rfl) ?_ (fun a w hI => ?_)
   ·refine EW.rg (by kernel_rfl) ?_
    refine EL.quick 5 [0, 2, 4, 5, 7, 8, 40] [(0, .string a0), (2, pt a1 0), (4, ia a6), (5, ia a3), (7, ia a8), (8, ia a4), (40, .bool (decide (a4 < (a0.size : Int))))] (by kernel_rfl) ?_
    by_cases c9 : a4 < (a0.size : Int)
    ·rw [if_pos c9] at H
     refine EL.keep [0, 2, 4, 5, 7, 8, 40] [(0, .string a0), (2, pt a1 0), (4, ia a6), (5, ia a3), (7, ia a8), (8, ia a4), (40, .bool (decide (a4 < (a0.size : Int))))] (by kernel_rfl) ?_
     refine EL.as' [(0, .string a0), (2, pt a1 0), (4, ia a6), (5, ia a3), (7, ia a8), (8, ia a4), (40, .bool (true))] (by simp only [sv, dec_t c9, Bool.not_true, Bool.not_false]) ?_
     refine EL.quick 5 [0, 2, 4, 5, 7, 8, 41, 42, 43, 44, 45] [(0, .string a0), (2, pt a1 0), (4, ia a6), (5, ia a3), (7, ia a8), (8, ia a4), (41, ia a4), (42, ia a6), (43, ia (IntKind.i64.wrap (a6 + 13))), (44, .bool (decide (a4 < (IntKind.i64.wrap (a6 + 13))))), (45, .bool (decide (a4 < (IntKind.i64.wrap (a6 + 13)))))] (by kernel_rfl) ?_
     refine EL.done (by kernel_rfl) ?_
     refine EQ.to ?_
     refine EQ.keep [0, 2, 4, 5, 7, 8, 45] [(0, .string a0), (2, pt a1 0), (4, ia a6), (5, ia a3), (7, ia a8), (8, ia a4), (45, .bool (decide (a4 < (IntKind.i64.wrap (a6 + 13)))))] (by kernel_rfl) ?_
     exact fun a ha => ⟨decide (a4 < (IntKind.i64.wrap (a6 + 13))), ha, (hS.re [0] [] rfl (sub_self)), H⟩
    rw [if_neg c9] at H
    refine EL.keep [0, 2, 4, 5, 7, 8, 40] [(0, .string a0), (2, pt a1 0), (4, ia a6), (5, ia a3), (7, ia a8), (8, ia a4), (40, .bool (decide (a4 < (a0.size : Int))))] (by kernel_rfl) ?_
    refine EL.as' [(0, .string a0), (2, pt a1 0), (4, ia a6), (5, ia a3), (7, ia a8), (8, ia a4), (40, .bool (false))] (by simp only [sv, dec_f c9, Bool.not_true, Bool.not_false]) ?_
    refine EL.quick 5 [0, 2, 4, 5, 7, 8, 45] [(0, .string a0), (2, pt a1 0), (4, ia a6), (5, ia a3), (7, ia a8), (8, ia a4), (45, .bool (false))] (by kernel_rfl) ?_
    refine EL.done (by kernel_rfl) ?_
    refine EQ.to ?_
    refine EQ.keep [0, 2, 4, 5, 7, 8, 45] [(0, .string a0), (2, pt a1 0), (4, ia a6), (5, ia a3), (7, ia a8), (8, ia a4), (45, .bool (false))] (by kernel_rfl) ?_
    exact fun a ha => ⟨false, ha, (hS.re [0] [] rfl (sub_self)), H⟩
   obtain ⟨c2, ha, hS, H⟩ := hI
   rw [g0] at H
   (try dsimp only at H)
   refine EW.at ?_ a ha
   clear ha a
   refine EW.cdP' (c2) (by kernel_rfl) (by kernel_rfl) (fun e4 => ?_) (fun e4 => ?_)
   ·rw [if_pos e4] at H
    refine EW.skip (by kernel_rfl) ?_
    refine EQ.code ?_
    obtain ⟨d4, g1, H⟩ := lt_out H
    refine EW.ct (fun a w => ∃ b6 : Int, Sat 92 [(0, .string a0), (2, pt a1 0), (4, ia a6), (5, ia a3), (7, ia b6), (8, ia a4)] a ∧ St B w (Ass.box 54 a1 [ia 0, ib 0] :: os) (rs) ∧ d4 b6 = some (b3, b4, b5)) (by kernel_rfl) ?_ (fun a w hI => ?_)
    ·refine EW.bl 3 (by kernel_rfl) ?_
     obtain ⟨d5, g2, H⟩ := lt_out H
     refine EW.ct (fun a w => ∃ c3 : Bool, Sat 92 [(0, .string a0), (2, pt a1 0), (4, ia a6), (5, ia a3), (7, ia a8), (8, ia a4), (57, .bool (c3))] a ∧ St B w (Ass.box 54 a1 [ia 0, ib 0] :: os) (rs) ∧ d5 c3 = some (b3, b4, b5)) (by kernel_rfl) ?_ (fun a w hI => ?_)
     ·refine EW.rg (by kernel_rfl) ?_
      refine EL.quick 2 [0, 2, 4, 5, 7, 8, 48, 49] [(0, .string a0), (2, pt a1 0), (4, ia a6), (5, ia a3), (7, ia a8), (8, ia a4), (48, .string a0), (49, ia a4)] (by kernel_rfl) ?_
      obtain ⟨e8, H⟩ := ite_in H
      obtain ⟨e9, H⟩ := ite_in H
      refine EL.of (EO.Y (YO.strIdx a0 9 .i64 a4 50 (by kernel_rfl) (by kernel_rfl) (by kernel_rfl) (by kernel_rfl) e8 e9) ?_)
      refine EL.quick 2 [0, 2, 4, 5, 7, 8, 52] [(0, .string a0), (2, pt a1 0), (4, ia a6), (5, ia a3), (7, ia a8), (8, ia a4), (52, .bool (decide ((sAt a0 a4) ≥ 48)))] (by kernel_rfl) ?_
      by_cases d0 : (sAt a0 a4) ≥ 48
      ·rw [if_pos d0] at H
       refine EL.keep [0, 2, 4, 5, 7, 8, 52] [(0, .string a0), (2, pt a1 0), (4, ia a6), (5, ia a3), (7, ia a8), (8, ia a4), (52, .bool (decide ((sAt a0 a4) ≥ 48)))] (by kernel_rfl) ?_
       refine EL.as' [(0, .string a0), (2, pt a1 0), (4, ia a6), (5, ia a3), (7, ia a8), (8, ia a4), (52, .bool (true))] (by simp only [sv, dec_t d0, Bool.not_true, Bool.not_false]) ?_
       refine EL.quick 2 [0, 2, 4, 5, 7, 8, 52, 53, 54] [(0, .string a0), (2, pt a1 0), (4, ia a6), (5, ia a3), (7, ia a8), (8, ia a4), (52, .bool (true)), (53, .string a0), (54, ia a4)] (by kernel_rfl) ?_
       refine EL.of (EO.Y (YO.strIdx a0 9 .i64 a4 55 (by kernel_rfl) (by kernel_rfl) (by kernel_rfl) (by kernel_rfl) e8 e9) ?_)
       refine EL.quick 2 [0, 2, 4, 5, 7, 8, 53, 54, 55, 56, 57] [(0, .string a0), (2, pt a1 0), (4, ia a6), (5, ia a3), (7, ia a8), (8, ia a4), (53, .string a0), (54, ia a4), (55, ig (sAt a0 a4)), (56, .bool (decide ((sAt a0 a4) ≤ 57))), (57, .bool (decide ((sAt a0 a4) ≤ 57)))] (by kernel_rfl) ?_
       refine EL.done (by kernel_rfl) ?_
       refine EQ.to ?_
       refine EQ.keep [0, 2, 4, 5, 7, 8, 57] [(0, .string a0), (2, pt a1 0), (4, ia a6), (5, ia a3), (7, ia a8), (8, ia a4), (57, .bool (decide ((sAt a0 a4) ≤ 57)))] (by kernel_rfl) ?_
       exact fun a ha => ⟨decide ((sAt a0 a4) ≤ 57), ha, (hS.re [0] [] rfl (sub_self)), H⟩
      rw [if_neg d0] at H
      refine EL.keep [0, 2, 4, 5, 7, 8, 52] [(0, .string a0), (2, pt a1 0), (4, ia a6), (5, ia a3), (7, ia a8), (8, ia a4), (52, .bool (decide ((sAt a0 a4) ≥ 48)))] (by kernel_rfl) ?_
      refine EL.as' [(0, .string a0), (2, pt a1 0), (4, ia a6), (5, ia a3), (7, ia a8), (8, ia a4), (52, .bool (false))] (by simp only [sv, dec_f d0, Bool.not_true, Bool.not_false]) ?_
      refine EL.quick 5 [0, 2, 4, 5, 7, 8, 57] [(0, .string a0), (2, pt a1 0), (4, ia a6), (5, ia a3), (7, ia a8), (8, ia a4), (57, .bool (false))] (by kernel_rfl) ?_
      refine EL.done (by kernel_rfl) ?_
      refine EQ.to ?_
      refine EQ.keep [0, 2, 4, 5, 7, 8, 57] [(0, .string a0), (2, pt a1 0), (4, ia a6), (5, ia a3), (7, ia a8), (8, ia a4), (57, .bool (false))] (by kernel_rfl) ?_
      exact fun a ha => ⟨false, ha, (hS.re [0] [] rfl (sub_self)), H⟩
     obtain ⟨c3, ha, hS, H⟩ := hI
     rw [g2] at H
     (try dsimp only at H)
     refine EW.at ?_ a ha
     clear ha a
     refine EW.cdP' (c3) (by kernel_rfl) (by kernel_rfl) (fun e5 => ?_) (fun e5 => ?_)
     ·rw [if_pos e5] at H
      refine EW.rg (by kernel_rfl) ?_
      refine EL.quick 4 [0, 2, 4, 5, 8, 59, 60, 61] [(0, .string a0), (2, pt a1 0), (4, ia a6), (5, ia a3), (8, ia a4), (59, ia (IntKind.i64.wrap (10 * a8))), (60, .string a0), (61, ia a4)] (by kernel_rfl) ?_
      obtain ⟨f3, H⟩ := ite_in H
      obtain ⟨f4, H⟩ := ite_in H
      refine EL.of (EO.Y (YO.strIdx a0 9 .i64 a4 62 (by kernel_rfl) (by kernel_rfl) (by kernel_rfl) (by kernel_rfl) f3 f4) ?_)
      refine EL.quick 4 [0, 2, 4, 5, 7, 8] [(0, .string a0), (2, pt a1 0), (4, ia a6), (5, ia a3), (7, ia (IntKind.i64.wrap ((IntKind.i64.wrap (10 * a8)) + (IntKind.i64.wrap (IntKind.u8.wrap ((sAt a0 a4) - 48)))))), (8, ia a4)] (by kernel_rfl) ?_
      obtain ⟨c8, g6, H⟩ := lt_out H
      refine EL.keep [0, 2, 4, 5, 7, 8] [(0, .string a0), (2, pt a1 0), (4, ia a6), (5, ia a3), (7, ia (IntKind.i64.wrap ((IntKind.i64.wrap (10 * a8)) + (IntKind.i64.wrap (IntKind.u8.wrap ((sAt a0 a4) - 48)))))), (8, ia a4)] (by kernel_rfl) ?_
      refine EL.as' [(0, .string a0), (2, pt a1 0), (4, ia a6), (5, ia a3), (7, ia c8), (8, ia a4)] (by subst g6; rfl) ?_
      refine EL.done (by kernel_rfl) ?_
      refine EQ.pop ?_
      refine EQ.to ?_
      refine EQ.keep [0, 2, 4, 5, 7, 8] [(0, .string a0), (2, pt a1 0), (4, ia a6), (5, ia a3), (7, ia c8), (8, ia a4)] (by kernel_rfl) ?_
      exact fun a ha => ⟨c8, ha, (hS.re [0] [] rfl (sub_self)), H⟩
     rw [if_neg e5] at H
     refine EW.skip (by kernel_rfl) ?_
     refine EQ.pop ?_
     refine EQ.to ?_
     refine EQ.keep [0, 2, 4, 5, 7, 8] [(0, .string a0), (2, pt a1 0), (4, ia a6), (5, ia a3), (7, ia a8), (8, ia a4)] (by kernel_rfl) ?_
     exact fun a ha => ⟨a8, ha, (hS.re [0] [] rfl (sub_self)), H⟩
    obtain ⟨b6, ha, hS, H⟩ := hI
    rw [g1] at H
    (try dsimp only at H)
    refine EW.at ?_ a ha
    clear ha a
    refine EW.rg (by kernel_rfl) ?_
    refine EL.quick 3 [0, 2, 4, 5, 7, 8] [(0, .string a0), (2, pt a1 0), (4, ia a6), (5, ia a3), (7, ia b6), (8, ia (IntKind.i64.wrap (a4 + 1)))] (by kernel_rfl) ?_
    refine EL.done (by kernel_rfl) ?_
    refine EQ.to ?_
    refine EQ.keep [0, 2, 4, 5, 7, 8] [(0, .string a0), (2, pt a1 0), (4, ia a6), (5, ia a3), (7, ia b6), (8, ia (IntKind.i64.wrap (a4 + 1)))] (by kernel_rfl) ?_
    exact fun a ha => ⟨n, Nat.lt_succ_self n, b6, IntKind.i64.wrap (a4 + 1), ha, (hS.re [0] [] rfl (sub_self)), H⟩
   rw [if_neg e4] at H
   refine EW.exit (id := 2) (by kernel_rfl) ?_
   refine EQ.exitCode ?_
   refine EQ.exitTo ?_
   refine EQ.exitHere ?_
   refine EQ.to ?_
   refine EQ.keep [0, 2, 5, 7] [(0, .string a0), (2, pt a1 0), (5, ia a3), (7, ia a8)] (by kernel_rfl) ?_
   exact fun a ha => ⟨a8, ha, (hS.re [0] [] rfl (sub_self)), H⟩
  obtain ⟨b0, ha, hS, H⟩ := hI
  rw [f9] at H
  (try dsimp only at H)
  refine EW.at ?_ a ha
  clear ha a
  obtain ⟨b9, g3, H⟩ := lt_out H
  refine EW.ct (fun a w => ∃ c7 : List Int, ∃ d9 : Option Addr, ∃ e0 : Nat, Sat 92 [(2, pt a1 0)] a ∧ St B w (Ass.own 2 (Kd.int .i64) d9 e0 c7 :: Ass.box 54 a1 [ia 0, ib 0] :: os) (rs) ∧ b9 c7 = some (b3, b4, b5)) (by kernel_rfl) ?_ (fun a w hI => ?_)
  ·refine EW.sq (by kernel_rfl) ?_
   refine EW.rg (by kernel_rfl) ?_
   refine EL.quick 3 [0, 2, 5, 66, 68] [(0, .string a0), (2, pt a1 0), (5, ia a3), (66, ia b0), (68, ia (IntKind.i64.wrap (0 - b0)))] (by kernel_rfl) ?_
   obtain ⟨a2, f1, H⟩ := lt_out H
   refine EL.of (EO.lit hS (Kd.int .i64) 2 114 2 #[(0, ia b0), (1, ia (IntKind.i64.wrap (0 - b0)))] [ia b0, ia (IntKind.i64.wrap (0 - b0))] a2 69 (by kernel_rfl) (by kernel_rfl) (by kernel_rfl) (fun _ => (by kernel_rfl)) (by rw [f1]; rfl) (by kernel_rfl) (fun w G hr => (by rw [f1]; exact ⟨[ia b0], [ia (IntKind.i64.wrap (0 - b0))], rfl, rfl, ⟨[ia (IntKind.i64.wrap (0 - b0))], [], rfl, rfl, rfl⟩⟩)) ?_)
   intro a9 w hS
   refine EL.quick 2 [0, 2, 5, 69, 70, 71] [(0, .string a0), (2, pt a1 0), (5, ia a3), (69, sv (some ⟨a9, 0, none⟩) 2 a2), (70, ia (a2.length : Int)), (71, ia 0)] (by kernel_rfl) ?_
   refine EL.done (by kernel_rfl) ?_
   refine EQ.code ?_
   refine EW.bl 4 (by kernel_rfl) ?_
   refine EW.lp (fun n a w => ∃ a5 : Int, Sat 92 [(0, .string a0), (2, pt a1 0), (5, ia a3), (69, sv (some ⟨a9, 0, none⟩) 2 a2), (70, ia (a2.length : Int)), (71, ia a5)] a ∧ St B w (Ass.own 2 (Kd.int .i64) (some ⟨a9, 0, none⟩) 2 a2 :: Ass.box 54 a1 [ia 0, ib 0] :: os) (rs) ∧ confidantref5_Parse.l2 K a2 a3 a0 b9 n a5 = some (b3, b4, b5)) K (by kernel_rfl) ?_ (fun n a w hI => ?_)
   ·refine EQ.keep [0, 2, 5, 69, 70, 71] [(0, .string a0), (2, pt a1 0), (5, ia a3), (69, sv (some ⟨a9, 0, none⟩) 2 a2), (70, ia (a2.length : Int)), (71, ia 0)] (by kernel_rfl) ?_
    exact fun a ha => ⟨0, ha, (hS.re [1, 1] [] rfl (sub_self)), H⟩
   obtain ⟨a5, ha, hS, H⟩ := hI
   obtain _ | n := n
   ·simp [confidantref5_Parse.l2] at H
   rw [confidantref5_Parse.l2.eq_2] at H
   refine EW.at ?_ a ha
   clear ha a
   refine EW.sq (by kernel_rfl) ?_
   refine EW.rg (by kernel_rfl) ?_
   refine EL.quick 1 [0, 2, 5, 69, 70, 71, 72] [(0, .string a0), (2, pt a1 0), (5, ia a3), (69, sv (some ⟨a9, 0, none⟩) 2 a2), (70, ia (a2.length : Int)), (71, ia a5), (72, .bool (decide (a5 < (a2.length : Int))))] (by kernel_rfl) ?_
   refine EL.done (by kernel_rfl) ?_
   refine EQ.code ?_
   refine EW.sq (by kernel_rfl) ?_
   refine EW.cdP (a5 < (a2.length : Int)) (by kernel_rfl) (by kernel_rfl) (fun c6 => ?_) (fun c6 => ?_)
   ·rw [if_pos c6] at H
    refine EW.skip (by kernel_rfl) ?_
    refine EQ.code ?_
    obtain ⟨d6, g4, H⟩ := lt_out H
    refine EW.ct (fun a w => Sat 92 [(0, .string a0), (2, pt a1 0), (5, ia a3), (69, sv (some ⟨a9, 0, none⟩) 2 a2), (70, ia (a2.length : Int)), (71, ia a5)] a ∧ St B w (Ass.own 2 (Kd.int .i64) (some ⟨a9, 0, none⟩) 2 a2 :: Ass.box 54 a1 [ia 0, ib 0] :: os) (rs) ∧ d6 = some (b3, b4, b5)) (by kernel_rfl) ?_ (fun a w hI => ?_)
    ·refine EW.bl 5 (by kernel_rfl) ?_
     refine EW.sq (by kernel_rfl) ?_
     refine EW.rg (by kernel_rfl) ?_
     obtain ⟨f0, H⟩ := ite_in H
     refine EL.of (EO.Y (YO.idx 114 1 ⟨a9, 0, none⟩ a2.length 2 .i64 a5 73 (by kernel_rfl) (by kernel_rfl) (by kernel_rfl) (by kernel_rfl) f0 c6) ?_)
     refine EL.of (EO.Y (YO.loadEl hS (Kd.int .i64) ⟨a9, 0, none⟩ 2 a2 (Rd.own 0 2 rfl) 0 (encI .i64) encI_of a5 f0 c6 2 1 0 1 rfl (ia (a2.getD a5.toNat 0)) 74 (by kernel_rfl) (by kernel_rfl) (by kernel_rfl) (by kernel_rfl)) ?_)
     refine EL.quick 1 [0, 2, 5, 10, 69, 70, 71] [(0, .string a0), (2, pt a1 0), (5, ia a3), (10, ia (a2.getD a5.toNat 0)), (69, sv (some ⟨a9, 0, none⟩) 2 a2), (70, ia (a2.length : Int)), (71, ia a5)] (by kernel_rfl) ?_
     refine EL.done (by kernel_rfl) ?_
     refine EQ.code ?_
     obtain ⟨d7, g5, H⟩ := lt_out H
     refine EW.ct (fun a w => ∃ c4 : Bool, Sat 92 [(0, .string a0), (2, pt a1 0), (5, ia a3), (10, ia (a2.getD a5.toNat 0)), (69, sv (some ⟨a9, 0, none⟩) 2 a2), (70, ia (a2.length : Int)), (71, ia a5), (80, .bool (c4))] a ∧ St B w (Ass.own 2 (Kd.int .i64) (some ⟨a9, 0, none⟩) 2 a2 :: Ass.box 54 a1 [ia 0, ib 0] :: os) (rs) ∧ d7 c4 = some (b3, b4, b5)) (by kernel_rfl) ?_ (fun a w hI => ?_)
     ·refine EW.rg (by kernel_rfl) ?_
      refine EL.quick 3 [0, 2, 5, 10, 69, 70, 71, 77] [(0, .string a0), (2, pt a1 0), (5, ia a3), (10, ia (a2.getD a5.toNat 0)), (69, sv (some ⟨a9, 0, none⟩) 2 a2), (70, ia (a2.length : Int)), (71, ia a5), (77, .bool (decide ((a2.getD a5.toNat 0) ≥ (-2147483648))))] (by kernel_rfl) ?_
      by_cases d1 : (a2.getD a5.toNat 0) ≥ (-2147483648)
      ·rw [if_pos d1] at H
       refine EL.keep [0, 2, 5, 10, 69, 70, 71, 77] [(0, .string a0), (2, pt a1 0), (5, ia a3), (10, ia (a2.getD a5.toNat 0)), (69, sv (some ⟨a9, 0, none⟩) 2 a2), (70, ia (a2.length : Int)), (71, ia a5), (77, .bool (decide ((a2.getD a5.toNat 0) ≥ (-2147483648))))] (by kernel_rfl) ?_
       refine EL.as' [(0, .string a0), (2, pt a1 0), (5, ia a3), (10, ia (a2.getD a5.toNat 0)), (69, sv (some ⟨a9, 0, none⟩) 2 a2), (70, ia (a2.length : Int)), (71, ia a5), (77, .bool (true))] (by simp only [sv, dec_t d1, Bool.not_true, Bool.not_false]) ?_
       refine EL.quick 3 [0, 2, 5, 10, 69, 70, 71, 78, 79, 80] [(0, .string a0), (2, pt a1 0), (5, ia a3), (10, ia (a2.getD a5.toNat 0)), (69, sv (some ⟨a9, 0, none⟩) 2 a2), (70, ia (a2.length : Int)), (71, ia a5), (78, ia (a2.getD a5.toNat 0)), (79, .bool (decide ((a2.getD a5.toNat 0) ≤ 2147483647))), (80, .bool (decide ((a2.getD a5.toNat 0) ≤ 2147483647)))] (by kernel_rfl) ?_
       refine EL.done (by kernel_rfl) ?_
       refine EQ.to ?_
       refine EQ.keep [0, 2, 5, 10, 69, 70, 71, 80] [(0, .string a0), (2, pt a1 0), (5, ia a3), (10, ia (a2.getD a5.toNat 0)), (69, sv (some ⟨a9, 0, none⟩) 2 a2), (70, ia (a2.length : Int)), (71, ia a5), (80, .bool (decide ((a2.getD a5.toNat 0) ≤ 2147483647)))] (by kernel_rfl) ?_
       exact fun a ha => ⟨decide ((a2.getD a5.toNat 0) ≤ 2147483647), ha, (hS.re [1, 1] [] rfl (sub_self)), H⟩
      rw [if_neg d1] at H
      refine EL.keep [0, 2, 5, 10, 69, 70, 71, 77] [(0, .string a0), (2, pt a1 0), (5, ia a3), (10, ia (a2.getD a5.toNat 0)), (69, sv (some ⟨a9, 0, none⟩) 2 a2), (70, ia (a2.length : Int)), (71, ia a5), (77, .bool (decide ((a2.getD a5.toNat 0) ≥ (-2147483648))))] (by kernel_rfl) ?_
      refine EL.as' [(0, .string a0), (2, pt a1 0), (5, ia a3), (10, ia (a2.getD a5.toNat 0)), (69, sv (some ⟨a9, 0, none⟩) 2 a2), (70, ia (a2.length : Int)), (71, ia a5), (77, .bool (false))] (by simp only [sv, dec_f d1, Bool.not_true, Bool.not_false]) ?_
      refine EL.quick 3 [0, 2, 5, 10, 69, 70, 71, 80] [(0, .string a0), (2, pt a1 0), (5, ia a3), (10, ia (a2.getD a5.toNat 0)), (69, sv (some ⟨a9, 0, none⟩) 2 a2), (70, ia (a2.length : Int)), (71, ia a5), (80, .bool (false))] (by kernel_rfl) ?_
      refine EL.done (by kernel_rfl) ?_
      refine EQ.to ?_
      refine EQ.keep [0, 2, 5, 10, 69, 70, 71, 80] [(0, .string a0), (2, pt a1 0), (5, ia a3), (10, ia (a2.getD a5.toNat 0)), (69, sv (some ⟨a9, 0, none⟩) 2 a2), (70, ia (a2.length : Int)), (71, ia a5), (80, .bool (false))] (by kernel_rfl) ?_
      exact fun a ha => ⟨false, ha, (hS.re [1, 1] [] rfl (sub_self)), H⟩
     obtain ⟨c4, ha, hS, H⟩ := hI
     rw [g5] at H
     (try dsimp only at H)
     refine EW.at ?_ a ha
     clear ha a
     refine EW.cdP' (c4) (by kernel_rfl) (by kernel_rfl) (fun e6 => ?_) (fun e6 => ?_)
     ·rw [if_pos e6] at H
      refine EW.sq (by kernel_rfl) ?_
      refine EW.rg (by kernel_rfl) ?_
      refine EL.quick 4 [0, 2, 5, 69, 70, 71, 84] [(0, .string a0), (2, pt a1 0), (5, ia a3), (69, sv (some ⟨a9, 0, none⟩) 2 a2), (70, ia (a2.length : Int)), (71, ia a5), (84, ag [ia a3, ib (IntKind.i32.wrap (a2.getD a5.toNat 0))])] (by kernel_rfl) ?_
      refine EL.of (EO.alloc hS 54 (ag [ia 0, ib 0]) [ia 0, ib 0] 11 (by kernel_rfl) (by kernel_rfl) (by kernel_rfl) (by kernel_rfl) (by first | rfl | kernel_rfl) ?_)
      intro e1 w hS
      refine EL.of (EO.storeBox (os' := Ass.box 54 e1 [ia a3, ib (IntKind.i32.wrap (a2.getD a5.toNat 0))] :: Ass.own 2 (Kd.int .i64) (some ⟨a9, 0, none⟩) 2 a2 :: Ass.box 54 a1 [ia 0, ib 0] :: os) hS 0 rfl 54 0 (ag [ia a3, ib (IntKind.i32.wrap (a2.getD a5.toNat 0))]) [ia a3, ib (IntKind.i32.wrap (a2.getD a5.toNat 0))] (by kernel_rfl) (by kernel_rfl) (by kernel_rfl) (by kernel_rfl) (by kernel_rfl) (by kernel_rfl) rfl rfl ?_)
      intro w hS
      refine EL.done (by kernel_rfl) ?_
      refine EQ.code ?_
      refine EW.sq (by kernel_rfl) ?_
      refine EW.rg (by kernel_rfl) ?_
      refine EL.of (EO.Y (YO.loadBox hS 0 rfl 54 0 2 (ag [ia a3, ib (IntKind.i32.wrap (a2.getD a5.toNat 0))]) 85 (by kernel_rfl) (by kernel_rfl) (by kernel_rfl) (by kernel_rfl)) ?_)
      obtain ⟨d8, f6, H⟩ := b1_out H
      have hq := confidantref5_Text.calls f6 hS
      refine EL.of (EO.callD 39 [ag [ia a3, ib (IntKind.i32.wrap (a2.getD a5.toNat 0))]] _ 86 (by kernel_rfl) (by kernel_rfl) (by kernel_rfl) hq ?_)
      rintro v w ⟨rfl, hS⟩
      refine EL.quick 2 [0, 2, 5, 11, 69, 70, 71, 88] [(0, .string a0), (2, pt a1 0), (5, ia a3), (11, pt e1 0), (69, sv (some ⟨a9, 0, none⟩) 2 a2), (70, ia (a2.length : Int)), (71, ia a5), (88, .bool ((d8.toList == a0.toList)))] (by kernel_rfl) ?_
      refine EL.done (by kernel_rfl) ?_
      refine EQ.code ?_
      refine EW.cdP' ((d8.toList == a0.toList)) (by kernel_rfl) (by kernel_rfl) (fun e7 => ?_) (fun e7 => ?_)
      ·rw [if_pos e7] at H
       refine EW.sq (by kernel_rfl) ?_
       refine EW.rg (by kernel_rfl) ?_
       refine EL.of (EO.Y (YO.loadBox hS 0 rfl 54 0 2 (ag [ia a3, ib (IntKind.i32.wrap (a2.getD a5.toNat 0))]) 89 (by kernel_rfl) (by kernel_rfl) (by kernel_rfl) (by kernel_rfl)) ?_)
       refine EL.of (EO.storeBox (os' := Ass.box 54 e1 [ia a3, ib (IntKind.i32.wrap (a2.getD a5.toNat 0))] :: Ass.own 2 (Kd.int .i64) (some ⟨a9, 0, none⟩) 2 a2 :: Ass.box 54 a1 [ia a3, ib (IntKind.i32.wrap (a2.getD a5.toNat 0))] :: os) hS 2 rfl 54 0 (ag [ia a3, ib (IntKind.i32.wrap (a2.getD a5.toNat 0))]) [ia a3, ib (IntKind.i32.wrap (a2.getD a5.toNat 0))] (by kernel_rfl) (by kernel_rfl) (by kernel_rfl) (by kernel_rfl) (by kernel_rfl) (by kernel_rfl) rfl rfl ?_)
       intro w hS
       refine EL.quick 1 [2, 3] [(2, pt a1 0), (3, .bool (true))] (by kernel_rfl) ?_
       refine EL.done (by kernel_rfl) ?_
       refine EQ.code ?_
       refine EW.ret (by kernel_rfl) ?_
       refine EQ.ret ?_
       refine EQ.ret ?_
       refine EQ.ret ?_
       refine EQ.ret ?_
       refine EQ.ret ?_
       simp only [sv, Option.some.injEq, Prod.mk.injEq] at H
       obtain ⟨rfl, rfl, rfl⟩ := H
       exact EQ.leave2 hS (.cell 2 54) (.tmp 3) (ag [ia a3, ib (IntKind.i32.wrap (a2.getD a5.toNat 0))]) (.bool (true)) (by kernel_rfl) ⟨2, 54, a1, [ia a3, ib (IntKind.i32.wrap (a2.getD a5.toNat 0))], 0, 2, rfl, (by kernel_rfl), (by kernel_rfl)⟩ (oneTmp (by kernel_rfl)) ⟨_, rfl, rfl, (hS.re [] [0, 0, 0] rfl (sub_self))⟩
      rw [if_neg e7] at H
      refine EW.skip (by kernel_rfl) ?_
      refine EQ.pop ?_
      refine EQ.to ?_
      refine EQ.keep [0, 2, 5, 69, 70, 71] [(0, .string a0), (2, pt a1 0), (5, ia a3), (69, sv (some ⟨a9, 0, none⟩) 2 a2), (70, ia (a2.length : Int)), (71, ia a5)] (by kernel_rfl) ?_
      exact fun a ha => ⟨ha, (hS.re [2, 2] [2] rfl (sub_self)), H⟩
     rw [if_neg e6] at H
     refine EW.skip (by kernel_rfl) ?_
     refine EQ.pop ?_
     refine EQ.to ?_
     refine EQ.keep [0, 2, 5, 69, 70, 71] [(0, .string a0), (2, pt a1 0), (5, ia a3), (69, sv (some ⟨a9, 0, none⟩) 2 a2), (70, ia (a2.length : Int)), (71, ia a5)] (by kernel_rfl) ?_
     exact fun a ha => ⟨ha, (hS.re [1, 1] [] rfl (sub_self)), H⟩
    obtain ⟨ha, hS, H⟩ := hI
    rw [g4] at H
    (try dsimp only at H)
    refine EW.at ?_ a ha
    clear ha a
    refine EW.rg (by kernel_rfl) ?_
    refine EL.quick 2 [0, 2, 5, 69, 70, 71] [(0, .string a0), (2, pt a1 0), (5, ia a3), (69, sv (some ⟨a9, 0, none⟩) 2 a2), (70, ia (a2.length : Int)), (71, ia (IntKind.i64.wrap (a5 + 1)))] (by kernel_rfl) ?_
    refine EL.done (by kernel_rfl) ?_
    refine EQ.to ?_
    refine EQ.keep [0, 2, 5, 69, 70, 71] [(0, .string a0), (2, pt a1 0), (5, ia a3), (69, sv (some ⟨a9, 0, none⟩) 2 a2), (70, ia (a2.length : Int)), (71, ia (IntKind.i64.wrap (a5 + 1)))] (by kernel_rfl) ?_
    exact fun a ha => ⟨n, Nat.lt_succ_self n, IntKind.i64.wrap (a5 + 1), ha, (hS.re [1, 1] [] rfl (sub_self)), H⟩
   rw [if_neg c6] at H
   refine EW.exit (id := 4) (by kernel_rfl) ?_
   refine EQ.exitCode ?_
   refine EQ.exitTo ?_
   refine EQ.exitHere ?_
   refine EQ.to ?_
   refine EQ.keep [2] [(2, pt a1 0)] (by kernel_rfl) ?_
   exact fun a ha => ⟨a2, (some ⟨a9, 0, none⟩), 2, ha, (hS.re [1, 1] [] rfl (sub_self)), H⟩
  obtain ⟨c7, d9, e0, ha, hS, H⟩ := hI
  rw [g3] at H
  (try dsimp only at H)
  refine EW.at ?_ a ha
  clear ha a
  refine EW.sq (by kernel_rfl) ?_
  refine EW.rg (by kernel_rfl) ?_
  refine EL.quick 1 [2, 91] [(2, pt a1 0), (91, ag [ia 0, ib 0])] (by kernel_rfl) ?_
  refine EL.of (EO.storeBox (os' := Ass.own 2 (Kd.int .i64) d9 e0 c7 :: Ass.box 54 a1 [ia 0, ib 0] :: os) hS 1 rfl 54 0 (ag [ia 0, ib 0]) [ia 0, ib 0] (by kernel_rfl) (by kernel_rfl) (by kernel_rfl) (by kernel_rfl) (by kernel_rfl) (by kernel_rfl) rfl rfl ?_)
  intro w hS
  refine EL.quick 1 [2, 3] [(2, pt a1 0), (3, .bool (false))] (by kernel_rfl) ?_
  refine EL.done (by kernel_rfl) ?_
  refine EQ.code ?_
  refine EW.ret (by kernel_rfl) ?_
  simp only [sv, Option.some.injEq, Prod.mk.injEq] at H
  obtain ⟨rfl, rfl, rfl⟩ := H
  exact EQ.leave2 hS (.cell 2 54) (.tmp 3) (ag [ia 0, ib 0]) (.bool (false)) (by kernel_rfl) ⟨1, 54, a1, [ia 0, ib 0], 0, 2, rfl, (by kernel_rfl), (by kernel_rfl)⟩ (oneTmp (by kernel_rfl)) ⟨_, rfl, rfl, (hS.re [] [0, 0] rfl (sub_self))⟩
 rw [if_neg e3] at H
 refine EW.sq (by kernel_rfl) ?_
 refine EW.rg (by kernel_rfl) ?_
 refine EL.quick 1 [2, 33] [(2, pt a1 0), (33, ag [ia 0, ib 0])] (by kernel_rfl) ?_
 refine EL.of (EO.storeBox (os' := Ass.box 54 a1 [ia 0, ib 0] :: os) hS 0 rfl 54 0 (ag [ia 0, ib 0]) [ia 0, ib 0] (by kernel_rfl) (by kernel_rfl) (by kernel_rfl) (by kernel_rfl) (by kernel_rfl) (by kernel_rfl) rfl rfl ?_)
 intro w hS
 refine EL.quick 1 [2, 3] [(2, pt a1 0), (3, .bool (false))] (by kernel_rfl) ?_
 refine EL.done (by kernel_rfl) ?_
 refine EQ.code ?_
 refine EW.ret (by kernel_rfl) ?_
 refine EQ.ret ?_
 simp only [sv, Option.some.injEq, Prod.mk.injEq] at H
 obtain ⟨rfl, rfl, rfl⟩ := H
 exact EQ.leave2 hS (.cell 2 54) (.tmp 3) (ag [ia 0, ib 0]) (.bool (false)) (by kernel_rfl) ⟨0, 54, a1, [ia 0, ib 0], 0, 2, rfl, (by kernel_rfl), (by kernel_rfl)⟩ (oneTmp (by kernel_rfl)) ⟨_, rfl, rfl, (hS.re [] [0] rfl (sub_self))⟩

/-! ### (*confidant/confidantref1.Reader).fail: function 82 -/
def confidantref1_Reader_fail.f (K : Nat) (a3 : List Int) (a2 : Int) (a0 : Int) : Option (List Int × Int) := some (([] : List Int), a0)
set_option maxRecDepth 100000 in
theorem confidantref1_Reader_fail.calls {K : Nat} {a3 : List Int} {a2 : Int} {a0 : Int} {a1 : Nat} {a4 : Option Addr} {a5 : Nat} {a6 : List Int} {a9 : Int} {B w : World} {os : List Ass} {rs : List Ro} (H : confidantref1_Reader_fail.f K a3 a2 a0 = some (a6, a9)) (hS : St B w (Ass.box 71 a1 [sv a4 a5 a3, ia a2] :: os) (Ro.sl (Kd.int .u8) a4 a5 a3 :: rs)) :
  Calls Tryd.prog 82 [pt a1 0, ia a0].toArray w (fun en w' => ∃ v, en = .returned v ∧ ∃ a7 : Option Addr, ∃ a8 : Nat, v = .tuple #[] ∧ St B w' (Ass.box 71 a1 [sv a7 a8 a6, ia a9] :: Ass.own 5 (Kd.int .u8) a7 a8 a6 :: os) (Ro.sl (Kd.int .u8) a4 a5 a3 :: rs)) := by
 unfold confidantref1_Reader_fail.f at H
 refine calls_of_EW (args := [pt a1 0, ia a0]) (c := Cd82) 11 Tryd.func82 (by kernel_rfl) (by kernel_rfl) (by kernel_rfl) ?_
 refine EW.rg (by kernel_rfl) ?_
 refine EL.quick 5 [5, 6, 8] [(5, pt a1 0), (6, ia a0), (8, pt a1 0)] (by kernel_rfl) ?_
 refine EL.of (EO.storeBox (os' := Ass.box 71 a1 [sv none 0 ([] : List Int), ia a2] :: os) hS 0 rfl 33 0 (sv none 0 ([] : List Int)) [sv none 0 ([] : List Int), ia a2] (by kernel_rfl) (by kernel_rfl) (by kernel_rfl) (by kernel_rfl) (by kernel_rfl) (by kernel_rfl) rfl rfl ?_)
 intro w hS
 refine EL.quick 2 [6, 10] [(6, ia a0), (10, pt a1 1)] (by kernel_rfl) ?_
 refine EL.of (EO.storeBox (os' := Ass.box 71 a1 [sv none 0 ([] : List Int), ia a0] :: os) hS 0 rfl 3 1 (ia a0) [sv none 0 ([] : List Int), ia a0] (by kernel_rfl) (by kernel_rfl) (by kernel_rfl) (by kernel_rfl) (by kernel_rfl) (by kernel_rfl) rfl rfl ?_)
 intro w hS
 refine EL.done (by kernel_rfl) ?_
 have hS := St.nilO hS 5 (Kd.int .u8)
 simp only [sv, Option.some.injEq, Prod.mk.injEq] at H
 obtain ⟨rfl, rfl⟩ := H
 exact EQ.leaveN (.tuple #[]) (by kernel_rfl) ⟨_, rfl, none, 0, rfl, (hS.re [0, 1] [] rfl (sub_self))⟩

/-! ### (*confidant/confidantref1.Reader).Num: function 61 -/
def confidantref1_Reader_Num.l0 (K : Nat) (a1 : List Int) (a6 : Int) (a3 : Int) (b0 : Option (List Int × Int × Int)) : Nat → Int → Int → Option (List Int × Int × Int)
 | 0, _, _ => none
 | n + 1, a4, a0 => if a0 < (a1.length : Int) then (if 0 ≤ a0 then (lt (fun (b5 : Bool) => (if b5 = true then (b2 (confidantref1_Reader_fail.f K a1 a6 20) fun (d0 : List Int) (d1 : Int) => (some (d0, d1, 0))) else (lt (bO .u64 (sL .u64 a4 7) (IntKind.u64.wrap (bA .u8 (a1.getD a0.toNat 0) 127))) fun a7 => (if (a1.getD a0.toNat 0) < 128 then (if a7 > a3 then (b2 (confidantref1_Reader_fail.f K a1 a6 22) fun (d2 : List Int) (d3 : Int) => (some (d2, d3, 0))) else (if 0 ≤ (IntKind.i64.wrap (a0 + 1)) then (if (IntKind.i64.wrap (a0 + 1)) ≤ (a1.length : Int) then (lt (a1.drop ((IntKind.i64.wrap (a0 + 1)).toNat)) fun b1 => (some (b1, a6, a7))) else none) else none)) else (confidantref1_Reader_Num.l0 K a1 a6 a3 b0 n a7 (IntKind.i64.wrap (a0 + 1))))))) fun b8 => (if a0 = 0 then (if (a1.getD a0.toNat 0) = 128 then (b8 true) else (b8 (decide (a4 > 144115188075855871)))) else (b8 (decide (a4 > 144115188075855871))))) else none) else (b0)
def confidantref1_Reader_Num.f (K : Nat) (a1 : List Int) (a6 : Int) (a3 : Int) : Option (List Int × Int × Int) := if a6 = 0 then (lt (b2 (confidantref1_Reader_fail.f K a1 a6 21) fun (d4 : List Int) (d5 : Int) => (some (d4, d5, 0))) fun b0 => (confidantref1_Reader_Num.l0 K a1 a6 a3 b0 K 0 0)) else (some (a1, a6, 0))
set_option maxRecDepth 100000 in
theorem confidantref1_Reader_Num.calls {K : Nat} {a1 : List Int} {a6 : Int} {a3 : Int} {a2 : Nat} {a8 : Option Addr} {a5 : Nat} {b4 : List Int} {b9 : Int} {c0 : Int} {B w : World} {os : List Ass} {rs : List Ro} (H : confidantref1_Reader_Num.f K a1 a6 a3 = some (b4, b9, c0)) (hS : St B w (Ass.box 71 a2 [sv a8 a5 a1, ia a6] :: os) (Ro.sl (Kd.int .u8) a8 a5 a1 :: rs)) :
  Calls Tryd.prog 61 [pt a2 0, ic a3].toArray w (fun en w' => ∃ v, en = .returned v ∧ ∃ c8 : Option Addr, ∃ c9 : Nat, v = ic c0 ∧ St B w' (Ass.box 71 a2 [sv c8 c9 b4, ia b9] :: os) (Ro.sl (Kd.int .u8) c8 c9 b4 :: Ro.sl (Kd.int .u8) a8 a5 a1 :: rs)) := by
 unfold confidantref1_Reader_Num.f at H
 refine calls_of_EW (args := [pt a2 0, ic a3]) (c := Cd61) 67 Tryd.func61 (by kernel_rfl) (by kernel_rfl) (by kernel_rfl) ?_
 refine EW.sq (by kernel_rfl) ?_
 refine EW.rg (by kernel_rfl) ?_
 refine EL.quick 1 [0, 1] [(0, pt a2 0), (1, ic a3)] (by kernel_rfl) ?_
 refine EL.done (by kernel_rfl) ?_
 refine EQ.code ?_
 refine EW.sq (by kernel_rfl) ?_
 refine EW.sq (by kernel_rfl) ?_
 refine EW.rg (by kernel_rfl) ?_
 refine EL.quick 3 [0, 1, 10] [(0, pt a2 0), (1, ic a3), (10, pt a2 1)] (by kernel_rfl) ?_
 refine EL.of (EO.Y (YO.loadBox hS 0 rfl 3 1 1 (ia a6) 11 (by kernel_rfl) (by kernel_rfl) (by kernel_rfl) (by kernel_rfl)) ?_)
 refine EL.quick 1 [0, 1, 12] [(0, pt a2 0), (1, ic a3), (12, .bool (!(decide (a6 = 0))))] (by kernel_rfl) ?_
 refine EL.done (by kernel_rfl) ?_
 refine EQ.code ?_
 refine EW.cdQ (b := !(decide (a6 = 0))) (a6 = 0) (false) (by kernel_rfl) (by kernel_rfl) ⟨fun h => (by rw [decide_eq_true h] <;> rfl), fun h => (by rw [decide_eq_false h] <;> rfl)⟩ (fun c3 => ?_) (fun c3 => ?_)
 ·rw [if_pos c3] at H
  refine EW.skip (by kernel_rfl) ?_
  refine EQ.code ?_
  refine EW.sq (by kernel_rfl) ?_
  refine EW.rg (by kernel_rfl) ?_
  refine EL.quick 1 [0, 1, 5] [(0, pt a2 0), (1, ic a3), (5, ic 0)] (by kernel_rfl) ?_
  refine EL.done (by kernel_rfl) ?_
  refine EQ.code ?_
  obtain ⟨b0, e5, H⟩ := lt_out H
  refine EW.ct (fun a w => Sat 67 [(0, pt a2 0)] a ∧ St B w (Ass.box 71 a2 [sv a8 a5 a1, ia a6] :: os) (Ro.sl (Kd.int .u8) a8 a5 a1 :: rs) ∧ b0 = some (b4, b9, c0)) (by kernel_rfl) ?_ (fun a w hI => ?_)
  ·refine EW.sq (by kernel_rfl) ?_
   refine EW.rg (by kernel_rfl) ?_
   refine EL.quick 1 [0, 1, 5, 6] [(0, pt a2 0), (1, ic a3), (5, ic 0), (6, ia 0)] (by kernel_rfl) ?_
   refine EL.done (by kernel_rfl) ?_
   refine EQ.code ?_
   refine EW.bl 0 (by kernel_rfl) ?_
   refine EW.lp (fun n a w => ∃ a4 : Int, ∃ a0 : Int, Sat 67 [(0, pt a2 0), (1, ic a3), (5, ic a4), (6, ia a0)] a ∧ St B w (Ass.box 71 a2 [sv a8 a5 a1, ia a6] :: os) (Ro.sl (Kd.int .u8) a8 a5 a1 :: rs) ∧ confidantref1_Reader_Num.l0 K a1 a6 a3 b0 n a4 a0 = some (b4, b9, c0)) K (by kernel_rfl) ?_ (fun n a w hI => ?_)
   ·refine EQ.keep [0, 1, 5, 6] [(0, pt a2 0), (1, ic a3), (5, ic 0), (6, ia 0)] (by kernel_rfl) ?_
    exact fun a ha => ⟨0, 0, ha, (hS.re [0] [] rfl (sub_cons 0 rfl (sub_tail (sub_self)))), H⟩
   obtain ⟨a4, a0, ha, hS, H⟩ := hI
   obtain _ | n := n
   ·simp [confidantref1_Reader_Num.l0] at H
   rw [confidantref1_Reader_Num.l0.eq_2] at H
   refine EW.at ?_ a ha
   clear ha a
   refine EW.sq (by kernel_rfl) ?_
   refine EW.sq (by kernel_rfl) ?_
   refine EW.rg (by kernel_rfl) ?_
   refine EL.quick 4 [0, 1, 5, 6, 13, 16] [(0, pt a2 0), (1, ic a3), (5, ic a4), (6, ia a0), (13, ia a0), (16, pt a2 0)] (by kernel_rfl) ?_
   refine EL.of (EO.Y (YO.loadBox hS 0 rfl 33 0 1 (sv a8 a5 a1) 17 (by kernel_rfl) (by kernel_rfl) (by kernel_rfl) (by kernel_rfl)) ?_)
   refine EL.quick 2 [0, 1, 5, 6, 19] [(0, pt a2 0), (1, ic a3), (5, ic a4), (6, ia a0), (19, .bool (decide (a0 < (a1.length : Int))))] (by kernel_rfl) ?_
   refine EL.done (by kernel_rfl) ?_
   refine EQ.code ?_
   refine EW.cdP (a0 < (a1.length : Int)) (by kernel_rfl) (by kernel_rfl) (fun b3 => ?_) (fun b3 => ?_)
   ·rw [if_pos b3] at H
    refine EW.skip (by kernel_rfl) ?_
    refine EQ.code ?_
    refine EW.sq (by kernel_rfl) ?_
    refine EW.bl 1 (by kernel_rfl) ?_
    refine EW.sq (by kernel_rfl) ?_
    refine EW.rg (by kernel_rfl) ?_
    refine EL.quick 3 [0, 1, 5, 6, 24] [(0, pt a2 0), (1, ic a3), (5, ic a4), (6, ia a0), (24, pt a2 0)] (by kernel_rfl) ?_
    refine EL.of (EO.Y (YO.loadBox hS 0 rfl 33 0 1 (sv a8 a5 a1) 25 (by kernel_rfl) (by kernel_rfl) (by kernel_rfl) (by kernel_rfl)) ?_)
    refine EL.quick 1 [0, 1, 5, 6, 25, 26] [(0, pt a2 0), (1, ic a3), (5, ic a4), (6, ia a0), (25, sv a8 a5 a1), (26, ia a0)] (by kernel_rfl) ?_
    obtain ⟨c4, H⟩ := ite_in H
    obtain ⟨a9, rfl⟩ := St.rd_some hS (Rd.ro 0 rfl) c4 b3
    refine EL.of (EO.Y (YO.idx 33 1 a9 a1.length a5 .i64 a0 27 (by kernel_rfl) (by kernel_rfl) (by kernel_rfl) (by kernel_rfl) c4 b3) ?_)
    refine EL.of (EO.Y (YO.loadEl hS (Kd.int .u8) a9 a5 a1 (Rd.ro 0 rfl) 0 (encI .u8) encI_of a0 c4 b3 5 1 0 1 rfl (ig (a1.getD a0.toNat 0)) 28 (by kernel_rfl) (by kernel_rfl) (by kernel_rfl) (by kernel_rfl)) ?_)
    refine EL.quick 1 [0, 1, 5, 6, 7] [(0, pt a2 0), (1, ic a3), (5, ic a4), (6, ia a0), (7, ig (a1.getD a0.toNat 0))] (by kernel_rfl) ?_
    refine EL.done (by kernel_rfl) ?_
    refine EQ.code ?_
    refine EW.sq (by kernel_rfl) ?_
    obtain ⟨b8, e6, H⟩ := lt_out H
    refine EW.ct (fun a w => ∃ b5 : Bool, Sat 67 [(0, pt a2 0), (1, ic a3), (5, ic a4), (6, ia a0), (7, ig (a1.getD a0.toNat 0)), (38, .bool (b5))] a ∧ St B w (Ass.box 71 a2 [sv (some a9) a5 a1, ia a6] :: os) (Ro.sl (Kd.int .u8) (some a9) a5 a1 :: rs) ∧ b8 b5 = some (b4, b9, c0)) (by kernel_rfl) ?_ (fun a w hI => ?_)
    ·refine EW.rg (by kernel_rfl) ?_
     refine EL.quick 3 [0, 1, 5, 6, 7, 31] [(0, pt a2 0), (1, ic a3), (5, ic a4), (6, ia a0), (7, ig (a1.getD a0.toNat 0)), (31, .bool (decide (a0 = 0)))] (by kernel_rfl) ?_
     by_cases c1 : a0 = 0
     ·rw [if_pos c1] at H
      refine EL.keep [0, 1, 5, 6, 7, 31] [(0, pt a2 0), (1, ic a3), (5, ic a4), (6, ia a0), (7, ig (a1.getD a0.toNat 0)), (31, .bool (decide (a0 = 0)))] (by kernel_rfl) ?_
      refine EL.as' [(0, pt a2 0), (1, ic a3), (5, ic a4), (6, ia a0), (7, ig (a1.getD a0.toNat 0)), (31, .bool (true))] (by simp only [sv, dec_t c1, Bool.not_true, Bool.not_false]) ?_
      refine EL.quick 4 [0, 1, 5, 6, 7, 32, 33, 35] [(0, pt a2 0), (1, ic a3), (5, ic a4), (6, ia a0), (7, ig (a1.getD a0.toNat 0)), (32, ig (a1.getD a0.toNat 0)), (33, .bool (decide ((a1.getD a0.toNat 0) = 128))), (35, .bool (decide ((a1.getD a0.toNat 0) = 128)))] (by kernel_rfl) ?_
      by_cases c2 : (a1.getD a0.toNat 0) = 128
      ·rw [if_pos c2] at H
       refine EL.keep [0, 1, 5, 6, 7, 32, 33, 35] [(0, pt a2 0), (1, ic a3), (5, ic a4), (6, ia a0), (7, ig (a1.getD a0.toNat 0)), (32, ig (a1.getD a0.toNat 0)), (33, .bool (decide ((a1.getD a0.toNat 0) = 128))), (35, .bool (decide ((a1.getD a0.toNat 0) = 128)))] (by kernel_rfl) ?_
       refine EL.as' [(0, pt a2 0), (1, ic a3), (5, ic a4), (6, ia a0), (7, ig (a1.getD a0.toNat 0)), (32, ig (a1.getD a0.toNat 0)), (33, .bool (true)), (35, .bool (true))] (by simp only [sv, dec_t c2, Bool.not_true, Bool.not_false]) ?_
       refine EL.quick 3 [0, 1, 5, 6, 7, 32, 33, 38] [(0, pt a2 0), (1, ic a3), (5, ic a4), (6, ia a0), (7, ig (a1.getD a0.toNat 0)), (32, ig (a1.getD a0.toNat 0)), (33, .bool (true)), (38, .bool (true))] (by kernel_rfl) ?_
       refine EL.done (by kernel_rfl) ?_
       refine EQ.to ?_
       refine EQ.keep [0, 1, 5, 6, 7, 38] [(0, pt a2 0), (1, ic a3), (5, ic a4), (6, ia a0), (7, ig (a1.getD a0.toNat 0)), (38, .bool (true))] (by kernel_rfl) ?_
       exact fun a ha => ⟨true, ha, (hS.re [0] [] rfl (sub_cons 0 rfl (sub_tail (sub_self)))), H⟩
      rw [if_neg c2] at H
      refine EL.keep [0, 1, 5, 6, 7, 32, 33, 35] [(0, pt a2 0), (1, ic a3), (5, ic a4), (6, ia a0), (7, ig (a1.getD a0.toNat 0)), (32, ig (a1.getD a0.toNat 0)), (33, .bool (decide ((a1.getD a0.toNat 0) = 128))), (35, .bool (decide ((a1.getD a0.toNat 0) = 128)))] (by kernel_rfl) ?_
      refine EL.as' [(0, pt a2 0), (1, ic a3), (5, ic a4), (6, ia a0), (7, ig (a1.getD a0.toNat 0)), (32, ig (a1.getD a0.toNat 0)), (33, .bool (false)), (35, .bool (false))] (by simp only [sv, dec_f c2, Bool.not_true, Bool.not_false]) ?_
      refine EL.quick 3 [0, 1, 5, 6, 7, 32, 33, 36, 37, 38] [(0, pt a2 0), (1, ic a3), (5, ic a4), (6, ia a0), (7, ig (a1.getD a0.toNat 0)), (32, ig (a1.getD a0.toNat 0)), (33, .bool (false)), (36, ic a4), (37, .bool (decide (a4 > 144115188075855871))), (38, .bool (decide (a4 > 144115188075855871)))] (by kernel_rfl) ?_
      refine EL.done (by kernel_rfl) ?_
      refine EQ.to ?_
      refine EQ.keep [0, 1, 5, 6, 7, 38] [(0, pt a2 0), (1, ic a3), (5, ic a4), (6, ia a0), (7, ig (a1.getD a0.toNat 0)), (38, .bool (decide (a4 > 144115188075855871)))] (by kernel_rfl) ?_
      exact fun a ha => ⟨decide (a4 > 144115188075855871), ha, (hS.re [0] [] rfl (sub_cons 0 rfl (sub_tail (sub_self)))), H⟩
     rw [if_neg c1] at H
     refine EL.keep [0, 1, 5, 6, 7, 31] [(0, pt a2 0), (1, ic a3), (5, ic a4), (6, ia a0), (7, ig (a1.getD a0.toNat 0)), (31, .bool (decide (a0 = 0)))] (by kernel_rfl) ?_
     refine EL.as' [(0, pt a2 0), (1, ic a3), (5, ic a4), (6, ia a0), (7, ig (a1.getD a0.toNat 0)), (31, .bool (false))] (by simp only [sv, dec_f c1, Bool.not_true, Bool.not_false]) ?_
     refine EL.quick 7 [0, 1, 5, 6, 7, 36, 37, 38] [(0, pt a2 0), (1, ic a3), (5, ic a4), (6, ia a0), (7, ig (a1.getD a0.toNat 0)), (36, ic a4), (37, .bool (decide (a4 > 144115188075855871))), (38, .bool (decide (a4 > 144115188075855871)))] (by kernel_rfl) ?_
     refine EL.done (by kernel_rfl) ?_
     refine EQ.to ?_
     refine EQ.keep [0, 1, 5, 6, 7, 38] [(0, pt a2 0), (1, ic a3), (5, ic a4), (6, ia a0), (7, ig (a1.getD a0.toNat 0)), (38, .bool (decide (a4 > 144115188075855871)))] (by kernel_rfl) ?_
     exact fun a ha => ⟨decide (a4 > 144115188075855871), ha, (hS.re [0] [] rfl (sub_cons 0 rfl (sub_tail (sub_self)))), H⟩
    obtain ⟨b5, ha, hS, H⟩ := hI
    rw [e6] at H
    (try dsimp only at H)
    refine EW.at ?_ a ha
    clear ha a
    refine EW.cdP' (b5) (by kernel_rfl) (by kernel_rfl) (fun c5 => ?_) (fun c5 => ?_)
    ·rw [if_pos c5] at H
     refine EW.sq (by kernel_rfl) ?_
     refine EW.rg (by kernel_rfl) ?_
     refine EL.quick 1 [39] [(39, pt a2 0)] (by kernel_rfl) ?_
     have hS : St B _ (Ass.box 71 a2 [sv (some a9) a5 a1, ia a6] :: os) (Ro.sl (Kd.int .u8) (some a9) a5 a1 :: rs) := hS.re [0] [] rfl (sub_cons 0 rfl (sub_tail (sub_self)))
     obtain ⟨d0, d1, e2, H⟩ := b2_out H
     have hq := confidantref1_Reader_fail.calls e2 hS
     refine EL.of (EO.callD 82 [pt a2 0, ia 20] _ 40 (by kernel_rfl) (by kernel_rfl) (by kernel_rfl) hq ?_)
     rintro v w ⟨d6, d9, rfl, hS⟩
     refine EL.done (by kernel_rfl) ?_
     refine EQ.code ?_
     refine EW.sq (by kernel_rfl) ?_
     refine EW.rg (by kernel_rfl) ?_
     refine EL.quick 1 [4] [(4, ic 0)] (by kernel_rfl) ?_
     refine EL.done (by kernel_rfl) ?_
     refine EQ.code ?_
     refine EW.ret (by kernel_rfl) ?_
     refine EQ.ret ?_
     refine EQ.ret ?_
     refine EQ.ret ?_
     refine EQ.ret ?_
     refine EQ.ret ?_
     refine EQ.ret ?_
     have hS := St.fr hS 1 rfl
     simp only [sv, Option.some.injEq, Prod.mk.injEq] at H
     obtain ⟨rfl, rfl, rfl⟩ := H
     exact EQ.leave (ic 0) (by kernel_rfl) ⟨_, rfl, d6, d9, rfl, (hS.re [0] [] rfl (sub_cons 0 rfl (sub_tail (sub_self))))⟩
    rw [if_neg c5] at H
    refine EW.skip (by kernel_rfl) ?_
    refine EQ.code ?_
    refine EW.sq (by kernel_rfl) ?_
    refine EW.rg (by kernel_rfl) ?_
    refine EL.quick 7 [0, 1, 5, 6, 7] [(0, pt a2 0), (1, ic a3), (5, ic (bO .u64 (sL .u64 a4 7) (IntKind.u64.wrap (bA .u8 (a1.getD a0.toNat 0) 127)))), (6, ia a0), (7, ig (a1.getD a0.toNat 0))] (by kernel_rfl) ?_
    obtain ⟨a7, e8, H⟩ := lt_out H
    refine EL.keep [0, 1, 5, 6, 7] [(0, pt a2 0), (1, ic a3), (5, ic (bO .u64 (sL .u64 a4 7) (IntKind.u64.wrap (bA .u8 (a1.getD a0.toNat 0) 127)))), (6, ia a0), (7, ig (a1.getD a0.toNat 0))] (by kernel_rfl) ?_
    refine EL.as' [(0, pt a2 0), (1, ic a3), (5, ic a7), (6, ia a0), (7, ig (a1.getD a0.toNat 0))] (by subst e8; rfl) ?_
    refine EL.done (by kernel_rfl) ?_
    refine EQ.code ?_
    refine EW.sq (by kernel_rfl) ?_
    refine EW.rg (by kernel_rfl) ?_
    refine EL.quick 2 [0, 1, 5, 6, 48] [(0, pt a2 0), (1, ic a3), (5, ic a7), (6, ia a0), (48, .bool (decide ((a1.getD a0.toNat 0) < 128)))] (by kernel_rfl) ?_
    refine EL.done (by kernel_rfl) ?_
    refine EQ.code ?_
    refine EW.cdP ((a1.getD a0.toNat 0) < 128) (by kernel_rfl) (by kernel_rfl) (fun c6 => ?_) (fun c6 => ?_)
    ·rw [if_pos c6] at H
     refine EW.sq (by kernel_rfl) ?_
     refine EW.sq (by kernel_rfl) ?_
     refine EW.rg (by kernel_rfl) ?_
     refine EL.quick 3 [0, 5, 6, 51] [(0, pt a2 0), (5, ic a7), (6, ia a0), (51, .bool (decide (a7 > a3)))] (by kernel_rfl) ?_
     refine EL.done (by kernel_rfl) ?_
     refine EQ.code ?_
     refine EW.cdP (a7 > a3) (by kernel_rfl) (by kernel_rfl) (fun c7 => ?_) (fun c7 => ?_)
     ·rw [if_pos c7] at H
      refine EW.sq (by kernel_rfl) ?_
      refine EW.rg (by kernel_rfl) ?_
      refine EL.quick 1 [52] [(52, pt a2 0)] (by kernel_rfl) ?_
      have hS : St B _ (Ass.box 71 a2 [sv (some a9) a5 a1, ia a6] :: os) (Ro.sl (Kd.int .u8) (some a9) a5 a1 :: rs) := hS.re [0] [] rfl (sub_cons 0 rfl (sub_tail (sub_self)))
      obtain ⟨d2, d3, e3, H⟩ := b2_out H
      have hq := confidantref1_Reader_fail.calls e3 hS
      refine EL.of (EO.callD 82 [pt a2 0, ia 22] _ 53 (by kernel_rfl) (by kernel_rfl) (by kernel_rfl) hq ?_)
      rintro v w ⟨d7, e0, rfl, hS⟩
      refine EL.done (by kernel_rfl) ?_
      refine EQ.code ?_
      refine EW.sq (by kernel_rfl) ?_
      refine EW.rg (by kernel_rfl) ?_
      refine EL.quick 1 [4] [(4, ic 0)] (by kernel_rfl) ?_
      refine EL.done (by kernel_rfl) ?_
      refine EQ.code ?_
      refine EW.ret (by kernel_rfl) ?_
      refine EQ.ret ?_
      refine EQ.ret ?_
      refine EQ.ret ?_
      refine EQ.ret ?_
      refine EQ.ret ?_
      refine EQ.ret ?_
      have hS := St.fr hS 1 rfl
      simp only [sv, Option.some.injEq, Prod.mk.injEq] at H
      obtain ⟨rfl, rfl, rfl⟩ := H
      exact EQ.leave (ic 0) (by kernel_rfl) ⟨_, rfl, d7, e0, rfl, (hS.re [0] [] rfl (sub_cons 0 rfl (sub_tail (sub_self))))⟩
     rw [if_neg c7] at H
     refine EW.skip (by kernel_rfl) ?_
     refine EQ.code ?_
     refine EW.sq (by kernel_rfl) ?_
     refine EW.rg (by kernel_rfl) ?_
     refine EL.quick 4 [5, 6, 54, 57] [(5, ic a7), (6, ia a0), (54, pt a2 0), (57, pt a2 0)] (by kernel_rfl) ?_
     refine EL.of (EO.Y (YO.loadBox hS 0 rfl 33 0 1 (sv (some a9) a5 a1) 58 (by kernel_rfl) (by kernel_rfl) (by kernel_rfl) (by kernel_rfl)) ?_)
     refine EL.quick 2 [5, 54, 58, 60] [(5, ic a7), (54, pt a2 0), (58, sv (some a9) a5 a1), (60, ia (IntKind.i64.wrap (a0 + 1)))] (by kernel_rfl) ?_
     obtain ⟨e9, H⟩ := ite_in H
     obtain ⟨f0, H⟩ := ite_in H
     obtain ⟨b1, e7, H⟩ := lt_out H
     refine EL.of (EO.sliceRo hS (Kd.int .u8) (some a9) a5 a1 0 rfl (some (ia (IntKind.i64.wrap (a0 + 1)))) none none ((IntKind.i64.wrap (a0 + 1)).toNat) a1.length a5 b1 (by rw [e7]; exact (slice_lo _ _)) 33 61 (by kernel_rfl) (by kernel_rfl) (by kernel_rfl) (by kernel_rfl) ((Int.toNat_of_nonneg (by omega)).symm) (rfl) ⟨rfl, fun h => by first | rfl | cases h⟩ (by omega) (by omega) (.inl rfl) ?_)
     intro b6 b7 hS
     refine EL.quick 2 [5, 61, 63] [(5, ic a7), (61, sv b6 b7 b1), (63, pt a2 0)] (by kernel_rfl) ?_
     refine EL.of (EO.storeBox (os' := Ass.box 71 a2 [sv b6 b7 b1, ia a6] :: os) hS 0 rfl 33 0 (sv b6 b7 b1) [sv b6 b7 b1, ia a6] (by kernel_rfl) (by kernel_rfl) (by kernel_rfl) (by kernel_rfl) (by kernel_rfl) (by kernel_rfl) rfl rfl ?_)
     intro w hS
     refine EL.done (by kernel_rfl) ?_
     refine EQ.code ?_
     refine EW.sq (by kernel_rfl) ?_
     refine EW.rg (by kernel_rfl) ?_
     refine EL.quick 2 [4] [(4, ic a7)] (by kernel_rfl) ?_
     refine EL.done (by kernel_rfl) ?_
     refine EQ.code ?_
     refine EW.ret (by kernel_rfl) ?_
     refine EQ.ret ?_
     refine EQ.ret ?_
     refine EQ.ret ?_
     refine EQ.ret ?_
     refine EQ.ret ?_
     simp only [sv, Option.some.injEq, Prod.mk.injEq] at H
     obtain ⟨rfl, rfl, rfl⟩ := H
     exact EQ.leave (ic a7) (by kernel_rfl) ⟨_, rfl, b6, b7, rfl, (hS.re [0] [] rfl (sub_cons 0 rfl (sub_tail (sub_self))))⟩
    rw [if_neg c6] at H
    refine EW.skip (by kernel_rfl) ?_
    refine EQ.pop ?_
    refine EQ.code ?_
    refine EW.rg (by kernel_rfl) ?_
    refine EL.quick 3 [0, 1, 5, 6] [(0, pt a2 0), (1, ic a3), (5, ic a7), (6, ia (IntKind.i64.wrap (a0 + 1)))] (by kernel_rfl) ?_
    refine EL.done (by kernel_rfl) ?_
    refine EQ.to ?_
    refine EQ.keep [0, 1, 5, 6] [(0, pt a2 0), (1, ic a3), (5, ic a7), (6, ia (IntKind.i64.wrap (a0 + 1)))] (by kernel_rfl) ?_
    exact fun a ha => ⟨n, Nat.lt_succ_self n, a7, IntKind.i64.wrap (a0 + 1), ha, (hS.re [0] [] rfl (sub_cons 0 rfl (sub_tail (sub_self)))), H⟩
   rw [if_neg b3] at H
   refine EW.exit (id := 0) (by kernel_rfl) ?_
   refine EQ.exitCode ?_
   refine EQ.exitTo ?_
   refine EQ.exitHere ?_
   refine EQ.to ?_
   refine EQ.keep [0] [(0, pt a2 0)] (by kernel_rfl) ?_
   exact fun a ha => ⟨ha, (hS.re [0] [] rfl (sub_cons 0 rfl (sub_tail (sub_self)))), H⟩
  obtain ⟨ha, hS, H⟩ := hI
  rw [e5] at H
  (try dsimp only at H)
  refine EW.at ?_ a ha
  clear ha a
  refine EW.sq (by kernel_rfl) ?_
  refine EW.rg (by kernel_rfl) ?_
  refine EL.quick 1 [65] [(65, pt a2 0)] (by kernel_rfl) ?_
  have hS : St B _ (Ass.box 71 a2 [sv a8 a5 a1, ia a6] :: os) (Ro.sl (Kd.int .u8) a8 a5 a1 :: rs) := hS.re [0] [] rfl (sub_cons 0 rfl (sub_tail (sub_self)))
  obtain ⟨d4, d5, e4, H⟩ := b2_out H
  have hq := confidantref1_Reader_fail.calls e4 hS
  refine EL.of (EO.callD 82 [pt a2 0, ia 21] _ 66 (by kernel_rfl) (by kernel_rfl) (by kernel_rfl) hq ?_)
  rintro v w ⟨d8, e1, rfl, hS⟩
  refine EL.done (by kernel_rfl) ?_
  refine EQ.code ?_
  refine EW.sq (by kernel_rfl) ?_
  refine EW.rg (by kernel_rfl) ?_
  refine EL.quick 1 [4] [(4, ic 0)] (by kernel_rfl) ?_
  refine EL.done (by kernel_rfl) ?_
  refine EQ.code ?_
  refine EW.ret (by kernel_rfl) ?_
  have hS := St.fr hS 1 rfl
  simp only [sv, Option.some.injEq, Prod.mk.injEq] at H
  obtain ⟨rfl, rfl, rfl⟩ := H
  exact EQ.leave (ic 0) (by kernel_rfl) ⟨_, rfl, d8, e1, rfl, (hS.re [0] [] rfl (sub_cons 0 rfl (sub_tail (sub_self))))⟩
 rw [if_neg c3] at H
 refine EW.sq (by kernel_rfl) ?_
 refine EW.rg (by kernel_rfl) ?_
 refine EL.quick 1 [4] [(4, ic 0)] (by kernel_rfl) ?_
 refine EL.done (by kernel_rfl) ?_
 refine EQ.code ?_
 refine EW.ret (by kernel_rfl) ?_
 refine EQ.ret ?_
 simp only [sv, Option.some.injEq, Prod.mk.injEq] at H
 obtain ⟨rfl, rfl, rfl⟩ := H
 exact EQ.leave (ic 0) (by kernel_rfl) ⟨_, rfl, a8, a5, rfl, (hS.re [0] [] rfl (sub_cons 0 rfl (sub_self)))⟩

/-! ### (*confidant/confidantref1.Reader).Word: function 62 -/
def confidantref1_Reader_Word.f (K : Nat) (a1 : List Int) (a4 : Int) : Option (List Int × Int × Int) := b3 (confidantref1_Reader_Num.f K a1 a4 4294967295) fun (a9 : List Int) (b0 : Int) (a5 : Int) => (some (a9, b0, IntKind.i32.wrap (IntKind.u32.wrap a5)))
set_option maxRecDepth 100000 in
theorem confidantref1_Reader_Word.calls {K : Nat} {a1 : List Int} {a4 : Int} {a0 : Nat} {a2 : Option Addr} {a3 : Nat} {a6 : List Int} {b1 : Int} {b2 : Int} {B w : World} {os : List Ass} {rs : List Ro} (H : confidantref1_Reader_Word.f K a1 a4 = some (a6, b1, b2)) (hS : St B w (Ass.box 71 a0 [sv a2 a3 a1, ia a4] :: os) (Ro.sl (Kd.int .u8) a2 a3 a1 :: rs)) :
  Calls Tryd.prog 62 [pt a0 0].toArray w (fun en w' => ∃ v, en = .returned v ∧ ∃ a7 : Option Addr, ∃ a8 : Nat, v = ib b2 ∧ St B w' (Ass.box 71 a0 [sv a7 a8 a6, ia b1] :: os) (Ro.sl (Kd.int .u8) a7 a8 a6 :: Ro.sl (Kd.int .u8) a2 a3 a1 :: rs)) := by
 unfold confidantref1_Reader_Word.f at H
 refine calls_of_EW (args := [pt a0 0]) (c := Cd62) 7 Tryd.func62 (by kernel_rfl) (by kernel_rfl) (by kernel_rfl) ?_
 refine EW.sq (by kernel_rfl) ?_
 refine EW.rg (by kernel_rfl) ?_
 refine EL.quick 1 [0] [(0, pt a0 0)] (by kernel_rfl) ?_
 refine EL.done (by kernel_rfl) ?_
 refine EQ.code ?_
 refine EW.sq (by kernel_rfl) ?_
 refine EW.rg (by kernel_rfl) ?_
 refine EL.quick 1 [3] [(3, pt a0 0)] (by kernel_rfl) ?_
 have hS : St B _ (Ass.box 71 a0 [sv a2 a3 a1, ia a4] :: os) (Ro.sl (Kd.int .u8) a2 a3 a1 :: rs) := hS.re [0] [] rfl (sub_cons 0 rfl (sub_tail (sub_self)))
 obtain ⟨a9, b0, a5, b6, H⟩ := b3_out H
 have hq := confidantref1_Reader_Num.calls b6 hS
 refine EL.of (EO.callD 61 [pt a0 0, ic 4294967295] _ 4 (by kernel_rfl) (by kernel_rfl) (by kernel_rfl) hq ?_)
 rintro v w ⟨b4, b5, rfl, hS⟩
 refine EL.quick 3 [2] [(2, ib (IntKind.i32.wrap (IntKind.u32.wrap a5)))] (by kernel_rfl) ?_
 refine EL.done (by kernel_rfl) ?_
 refine EQ.code ?_
 refine EW.ret (by kernel_rfl) ?_
 simp only [sv, Option.some.injEq, Prod.mk.injEq] at H
 obtain ⟨rfl, rfl, rfl⟩ := H
 exact EQ.leave (ib (IntKind.i32.wrap (IntKind.u32.wrap a5))) (by kernel_rfl) ⟨_, rfl, b4, b5, rfl, (hS.re [0] [] rfl (sub_cons 0 rfl (sub_tail (sub_self))))⟩

/-! ### confidant/confidantref5.Take: function 42 -/
def confidantref5_Take.f (K : Nat) (a6 : List Int) (c0 : Int) : Option (List Int × Int × Int × Int × Bool) := b3 (confidantref1_Reader_Num.f K a6 c0 26) fun (b0 : List Int) (b8 : Int) (a3 : Int) => (lt (fun (a7 : List Int) (a5 : Int) (a4 : Int) => (lt (fun (b9 : Bool) => (if b9 = true then (some (a7, a5, 0, 0, false)) else (some (a7, a5, IntKind.i64.wrap a3, a4, true)))) fun c5 => (if a5 = 0 then (b1 (confidantref5_Right.f K (IntKind.i64.wrap a3) a4) fun (c1 : Bool) => (c5 (!(c1)))) else (c5 true)))) fun c4 => (b1 (confidantref5_Arg.f K (IntKind.i64.wrap a3)) fun (c6 : Int) => (if c6 > 0 then (b3 (confidantref1_Reader_Word.f K b0 b8) fun (c7 : List Int) (c8 : Int) (b5 : Int) => (c4 c7 c8 b5)) else (c4 b0 b8 0))))
set_option maxRecDepth 100000 in
theorem confidantref5_Take.calls {K : Nat} {a6 : List Int} {c0 : Int} {a2 : Nat} {b2 : Option Addr} {b4 : Nat} {c2 : List Int} {c9 : Int} {d0 : Int} {d1 : Int} {d2 : Bool} {B w : World} {os : List Ass} {rs : List Ro} (H : confidantref5_Take.f K a6 c0 = some (c2, c9, d0, d1, d2)) (hS : St B w (Ass.box 71 a2 [sv b2 b4 a6, ia c0] :: os) (Ro.sl (Kd.int .u8) b2 b4 a6 :: rs)) :
  Calls Tryd.prog 42 [pt a2 0].toArray w (fun en w' => ∃ v, en = .returned v ∧ ∃ d5 : Option Addr, ∃ d7 : Nat, v = .tuple #[ag [ia d0, ib d1], .bool (d2)] ∧ St B w' (Ass.box 71 a2 [sv d5 d7 c2, ia c9] :: os) (Ro.sl (Kd.int .u8) d5 d7 c2 :: Ro.sl (Kd.int .u8) b2 b4 a6 :: rs)) := by
 unfold confidantref5_Take.f at H
 refine calls_of_EW (args := [pt a2 0]) (c := Cd42) 28 Tryd.func42 (by kernel_rfl) (by kernel_rfl) (by kernel_rfl) ?_
 refine EW.sq (by kernel_rfl) ?_
 refine EW.rg (by kernel_rfl) ?_
 refine EL.of (EO.alloc hS 54 (ag [ia 0, ib 0]) [ia 0, ib 0] 2 (by kernel_rfl) (by kernel_rfl) (by kernel_rfl) (by kernel_rfl) (by first | rfl | kernel_rfl) ?_)
 intro a0 w hS
 refine EL.quick 1 [0, 2] [(0, pt a2 0), (2, pt a0 0)] (by kernel_rfl) ?_
 refine EL.done (by kernel_rfl) ?_
 refine EQ.code ?_
 refine EW.sq (by kernel_rfl) ?_
 refine EW.rg (by kernel_rfl) ?_
 refine EL.of (EO.alloc hS 54 (ag [ia 0, ib 0]) [ia 0, ib 0] 4 (by kernel_rfl) (by kernel_rfl) (by kernel_rfl) (by kernel_rfl) (by first | rfl | kernel_rfl) ?_)
 intro a1 w hS
 refine EL.done (by kernel_rfl) ?_
 refine EQ.code ?_
 refine EW.sq (by kernel_rfl) ?_
 refine EW.rg (by kernel_rfl) ?_
 refine EL.quick 1 [0, 2, 4, 5] [(0, pt a2 0), (2, pt a0 0), (4, pt a1 0), (5, pt a2 0)] (by kernel_rfl) ?_
 have hS : St B _ (Ass.box 71 a2 [sv b2 b4 a6, ia c0] :: Ass.box 54 a1 [ia 0, ib 0] :: Ass.box 54 a0 [ia 0, ib 0] :: os) (Ro.sl (Kd.int .u8) b2 b4 a6 :: rs) := hS.re [2] [] rfl (sub_cons 0 rfl (sub_tail (sub_self)))
 obtain ⟨b0, b8, a3, d9, H⟩ := b3_out H
 have hq := confidantref1_Reader_Num.calls d9 hS
 refine EL.of (EO.callD 61 [pt a2 0, ic 26] _ 6 (by kernel_rfl) (by kernel_rfl) (by kernel_rfl) hq ?_)
 rintro v w ⟨b6, b7, rfl, hS⟩
 refine EL.quick 2 [0, 2, 4, 7, 8] [(0, pt a2 0), (2, pt a0 0), (4, pt a1 0), (7, ia (IntKind.i64.wrap a3)), (8, pt a1 0)] (by kernel_rfl) ?_
 refine EL.of (EO.storeBox (os' := Ass.box 71 a2 [sv b6 b7 b0, ia b8] :: Ass.box 54 a1 [ia (IntKind.i64.wrap a3), ib 0] :: Ass.box 54 a0 [ia 0, ib 0] :: os) hS 1 rfl 3 0 (ia (IntKind.i64.wrap a3)) [ia (IntKind.i64.wrap a3), ib 0] (by kernel_rfl) (by kernel_rfl) (by kernel_rfl) (by kernel_rfl) (by kernel_rfl) (by kernel_rfl) rfl rfl ?_)
 intro w hS
 refine EL.done (by kernel_rfl) ?_
 refine EQ.code ?_
 obtain ⟨c4, e3, H⟩ := lt_out H
 refine EW.ct (fun a w => ∃ a7 : List Int, ∃ a5 : Int, ∃ a4 : Int, ∃ a8 : Option Addr, ∃ a9 : Nat, Sat 28 [(0, pt a2 0), (2, pt a0 0), (4, pt a1 0)] a ∧ St B w (Ass.box 71 a2 [sv a8 a9 a7, ia a5] :: Ass.box 54 a1 [ia (IntKind.i64.wrap a3), ib a4] :: Ass.box 54 a0 [ia 0, ib 0] :: os) (Ro.sl (Kd.int .u8) a8 a9 a7 :: Ro.sl (Kd.int .u8) b6 b7 b0 :: Ro.sl (Kd.int .u8) b2 b4 a6 :: rs) ∧ c4 a7 a5 a4 = some (c2, c9, d0, d1, d2)) (by kernel_rfl) ?_ (fun a w hI => ?_)
 ·refine EW.sq (by kernel_rfl) ?_
  refine EW.rg (by kernel_rfl) ?_
  refine EL.quick 1 [0, 2, 4, 9] [(0, pt a2 0), (2, pt a0 0), (4, pt a1 0), (9, pt a1 0)] (by kernel_rfl) ?_
  refine EL.of (EO.Y (YO.loadBox hS 1 rfl 3 0 1 (ia (IntKind.i64.wrap a3)) 10 (by kernel_rfl) (by kernel_rfl) (by kernel_rfl) (by kernel_rfl)) ?_)
  obtain ⟨c6, e0, H⟩ := b1_out H
  have hq := confidantref5_Arg.calls e0 hS
  refine EL.of (EO.callD 71 [ia (IntKind.i64.wrap a3)] _ 11 (by kernel_rfl) (by kernel_rfl) (by kernel_rfl) hq ?_)
  rintro v w ⟨rfl, hS⟩
  refine EL.quick 1 [0, 2, 4, 12] [(0, pt a2 0), (2, pt a0 0), (4, pt a1 0), (12, .bool (decide (c6 > 0)))] (by kernel_rfl) ?_
  refine EL.done (by kernel_rfl) ?_
  refine EQ.code ?_
  refine EW.cdP (c6 > 0) (by kernel_rfl) (by kernel_rfl) (fun d3 => ?_) (fun d3 => ?_)
  ·rw [if_pos d3] at H
   refine EW.rg (by kernel_rfl) ?_
   refine EL.quick 1 [0, 2, 4, 13] [(0, pt a2 0), (2, pt a0 0), (4, pt a1 0), (13, pt a2 0)] (by kernel_rfl) ?_
   have hS : St B _ (Ass.box 71 a2 [sv b6 b7 b0, ia b8] :: Ass.box 54 a1 [ia (IntKind.i64.wrap a3), ib 0] :: Ass.box 54 a0 [ia 0, ib 0] :: os) (Ro.sl (Kd.int .u8) b6 b7 b0 :: Ro.sl (Kd.int .u8) b2 b4 a6 :: rs) := hS.re [0] [] rfl (sub_cons 0 rfl (sub_tail (sub_self)))
   obtain ⟨c7, c8, b5, e1, H⟩ := b3_out H
   have hq := confidantref1_Reader_Word.calls e1 hS
   refine EL.of (EO.callD 62 [pt a2 0] _ 14 (by kernel_rfl) (by kernel_rfl) (by kernel_rfl) hq ?_)
   rintro v w ⟨d6, d8, rfl, hS⟩
   refine EL.quick 1 [0, 2, 4, 14, 15] [(0, pt a2 0), (2, pt a0 0), (4, pt a1 0), (14, ib b5), (15, pt a1 1)] (by kernel_rfl) ?_
   refine EL.of (EO.storeBox (os' := Ass.box 71 a2 [sv d6 d8 c7, ia c8] :: Ass.box 54 a1 [ia (IntKind.i64.wrap a3), ib b5] :: Ass.box 54 a0 [ia 0, ib 0] :: os) hS 1 rfl 21 1 (ib b5) [ia (IntKind.i64.wrap a3), ib b5] (by kernel_rfl) (by kernel_rfl) (by kernel_rfl) (by kernel_rfl) (by kernel_rfl) (by kernel_rfl) rfl rfl ?_)
   intro w hS
   refine EL.done (by kernel_rfl) ?_
   refine EQ.to ?_
   refine EQ.keep [0, 2, 4] [(0, pt a2 0), (2, pt a0 0), (4, pt a1 0)] (by kernel_rfl) ?_
   exact fun a ha => ⟨c7, c8, b5, d6, d8, ha, (hS.re [2, 2, 2] [] rfl (sub_cons 0 rfl (sub_cons 1 rfl (sub_cons 2 rfl (sub_tail (sub_tail (sub_tail (sub_self)))))))), H⟩
  rw [if_neg d3] at H
  refine EW.skip (by kernel_rfl) ?_
  refine EQ.to ?_
  refine EQ.keep [0, 2, 4] [(0, pt a2 0), (2, pt a0 0), (4, pt a1 0)] (by kernel_rfl) ?_
  exact fun a ha => ⟨b0, b8, 0, b6, b7, ha, (hS.re [2, 2, 2] [] rfl (sub_cons 0 rfl (sub_cons 0 rfl (sub_cons 1 rfl (sub_tail (sub_tail (sub_self))))))), H⟩
 obtain ⟨a7, a5, a4, a8, a9, ha, hS, H⟩ := hI
 rw [e3] at H
 (try dsimp only at H)
 refine EW.at ?_ a ha
 clear ha a
 refine EW.sq (by kernel_rfl) ?_
 obtain ⟨c5, e4, H⟩ := lt_out H
 refine EW.ct (fun a w => ∃ b9 : Bool, Sat 28 [(2, pt a0 0), (4, pt a1 0), (25, .bool (b9))] a ∧ St B w (Ass.box 71 a2 [sv a8 a9 a7, ia a5] :: Ass.box 54 a1 [ia (IntKind.i64.wrap a3), ib a4] :: Ass.box 54 a0 [ia 0, ib 0] :: os) (Ro.sl (Kd.int .u8) a8 a9 a7 :: Ro.sl (Kd.int .u8) b6 b7 b0 :: Ro.sl (Kd.int .u8) b2 b4 a6 :: rs) ∧ c5 b9 = some (c2, c9, d0, d1, d2)) (by kernel_rfl) ?_ (fun a w hI => ?_)
 ·refine EW.rg (by kernel_rfl) ?_
  refine EL.quick 3 [2, 4, 18] [(2, pt a0 0), (4, pt a1 0), (18, pt a2 1)] (by kernel_rfl) ?_
  refine EL.of (EO.Y (YO.loadBox hS 0 rfl 3 1 1 (ia a5) 19 (by kernel_rfl) (by kernel_rfl) (by kernel_rfl) (by kernel_rfl)) ?_)
  refine EL.quick 2 [2, 4, 21] [(2, pt a0 0), (4, pt a1 0), (21, .bool (!(decide (a5 = 0))))] (by kernel_rfl) ?_
  by_cases c3 : a5 = 0
  ·rw [if_pos c3] at H
   refine EL.keep [2, 4, 21] [(2, pt a0 0), (4, pt a1 0), (21, .bool (!(decide (a5 = 0))))] (by kernel_rfl) ?_
   refine EL.as' [(2, pt a0 0), (4, pt a1 0), (21, .bool (false))] (by simp only [sv, dec_t c3, Bool.not_true, Bool.not_false]) ?_
   refine EL.of (EO.Y (YO.loadBox hS 1 rfl 54 0 2 (ag [ia (IntKind.i64.wrap a3), ib a4]) 22 (by kernel_rfl) (by kernel_rfl) (by kernel_rfl) (by kernel_rfl)) ?_)
   obtain ⟨c1, e2, H⟩ := b1_out H
   have hq := confidantref5_Right.calls e2 hS
   refine EL.of (EO.callD 38 [ag [ia (IntKind.i64.wrap a3), ib a4]] _ 23 (by kernel_rfl) (by kernel_rfl) (by kernel_rfl) hq ?_)
   rintro v w ⟨rfl, hS⟩
   refine EL.quick 2 [2, 4, 25] [(2, pt a0 0), (4, pt a1 0), (25, .bool (!(c1)))] (by kernel_rfl) ?_
   refine EL.done (by kernel_rfl) ?_
   refine EQ.to ?_
   refine EQ.keep [2, 4, 25] [(2, pt a0 0), (4, pt a1 0), (25, .bool (!(c1)))] (by kernel_rfl) ?_
   exact fun a ha => ⟨!(c1), ha, (hS.re [2, 2, 2] [] rfl (sub_cons 0 rfl (sub_cons 1 rfl (sub_cons 2 rfl (sub_tail (sub_tail (sub_tail (sub_self)))))))), H⟩
  rw [if_neg c3] at H
  refine EL.keep [2, 4, 21] [(2, pt a0 0), (4, pt a1 0), (21, .bool (!(decide (a5 = 0))))] (by kernel_rfl) ?_
  refine EL.as' [(2, pt a0 0), (4, pt a1 0), (21, .bool (true))] (by simp only [sv, dec_f c3, Bool.not_true, Bool.not_false]) ?_
  refine EL.quick 4 [2, 4, 25] [(2, pt a0 0), (4, pt a1 0), (25, .bool (true))] (by kernel_rfl) ?_
  refine EL.done (by kernel_rfl) ?_
  refine EQ.to ?_
  refine EQ.keep [2, 4, 25] [(2, pt a0 0), (4, pt a1 0), (25, .bool (true))] (by kernel_rfl) ?_
  exact fun a ha => ⟨true, ha, (hS.re [2, 2, 2] [] rfl (sub_cons 0 rfl (sub_cons 1 rfl (sub_cons 2 rfl (sub_tail (sub_tail (sub_tail (sub_self)))))))), H⟩
 obtain ⟨b9, ha, hS, H⟩ := hI
 rw [e4] at H
 (try dsimp only at H)
 refine EW.at ?_ a ha
 clear ha a
 refine EW.cdP' (b9) (by kernel_rfl) (by kernel_rfl) (fun d4 => ?_) (fun d4 => ?_)
 ·rw [if_pos d4] at H
  refine EW.sq (by kernel_rfl) ?_
  refine EW.rg (by kernel_rfl) ?_
  refine EL.quick 1 [2, 26] [(2, pt a0 0), (26, ag [ia 0, ib 0])] (by kernel_rfl) ?_
  refine EL.of (EO.storeBox (os' := Ass.box 71 a2 [sv a8 a9 a7, ia a5] :: Ass.box 54 a1 [ia (IntKind.i64.wrap a3), ib a4] :: Ass.box 54 a0 [ia 0, ib 0] :: os) hS 2 rfl 54 0 (ag [ia 0, ib 0]) [ia 0, ib 0] (by kernel_rfl) (by kernel_rfl) (by kernel_rfl) (by kernel_rfl) (by kernel_rfl) (by kernel_rfl) rfl rfl ?_)
  intro w hS
  refine EL.quick 1 [2, 3] [(2, pt a0 0), (3, .bool (false))] (by kernel_rfl) ?_
  refine EL.done (by kernel_rfl) ?_
  refine EQ.code ?_
  refine EW.ret (by kernel_rfl) ?_
  refine EQ.ret ?_
  simp only [sv, Option.some.injEq, Prod.mk.injEq] at H
  obtain ⟨rfl, rfl, rfl, rfl, rfl⟩ := H
  exact EQ.leave2 hS (.cell 2 54) (.tmp 3) (ag [ia 0, ib 0]) (.bool (false)) (by kernel_rfl) ⟨2, 54, a0, [ia 0, ib 0], 0, 2, rfl, (by kernel_rfl), (by kernel_rfl)⟩ (oneTmp (by kernel_rfl)) ⟨_, rfl, a8, a9, rfl, (hS.re [0] [1, 1] rfl (sub_cons 0 rfl (sub_tail (sub_tail (sub_self)))))⟩
 rw [if_neg d4] at H
 refine EW.skip (by kernel_rfl) ?_
 refine EQ.code ?_
 refine EW.sq (by kernel_rfl) ?_
 refine EW.rg (by kernel_rfl) ?_
 refine EL.of (EO.Y (YO.loadBox hS 1 rfl 54 0 2 (ag [ia (IntKind.i64.wrap a3), ib a4]) 27 (by kernel_rfl) (by kernel_rfl) (by kernel_rfl) (by kernel_rfl)) ?_)
 refine EL.of (EO.storeBox (os' := Ass.box 71 a2 [sv a8 a9 a7, ia a5] :: Ass.box 54 a1 [ia (IntKind.i64.wrap a3), ib a4] :: Ass.box 54 a0 [ia (IntKind.i64.wrap a3), ib a4] :: os) hS 2 rfl 54 0 (ag [ia (IntKind.i64.wrap a3), ib a4]) [ia (IntKind.i64.wrap a3), ib a4] (by kernel_rfl) (by kernel_rfl) (by kernel_rfl) (by kernel_rfl) (by kernel_rfl) (by kernel_rfl) rfl rfl ?_)
 intro w hS
 refine EL.quick 1 [2, 3] [(2, pt a0 0), (3, .bool (true))] (by kernel_rfl) ?_
 refine EL.done (by kernel_rfl) ?_
 refine EQ.code ?_
 refine EW.ret (by kernel_rfl) ?_
 simp only [sv, Option.some.injEq, Prod.mk.injEq] at H
 obtain ⟨rfl, rfl, rfl, rfl, rfl⟩ := H
 exact EQ.leave2 hS (.cell 2 54) (.tmp 3) (ag [ia (IntKind.i64.wrap a3), ib a4]) (.bool (true)) (by kernel_rfl) ⟨2, 54, a0, [ia (IntKind.i64.wrap a3), ib a4], 0, 2, rfl, (by kernel_rfl), (by kernel_rfl)⟩ (oneTmp (by kernel_rfl)) ⟨_, rfl, a8, a9, rfl, (hS.re [0] [1, 1] rfl (sub_cons 0 rfl (sub_tail (sub_tail (sub_self)))))⟩

end Go.Proofs.YtocdpimpkifdmaaDoor.G
