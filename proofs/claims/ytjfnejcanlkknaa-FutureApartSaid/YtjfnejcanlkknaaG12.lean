import Derived.Test.YtjfnejcanlkknaaProg
import Derived.Test.YtjfnejcanlkknaaFwEq
import Derived.Test.YtjfnejcanlkknaaFwOpen
import Derived.Test.YtjfnejcanlkknaaG0
import Derived.Test.YtjfnejcanlkknaaG1
import Derived.Test.YtjfnejcanlkknaaG2
import Derived.Test.YtjfnejcanlkknaaG3
import Derived.Test.YtjfnejcanlkknaaG11
namespace Go.Proofs.Ytjfnejcanlkknaa.G
open Go Go.Fw Go.RowKit Go.Proofs
set_option linter.unusedVariables false
set_option linter.unusedSimpArgs false

/-! ### confidant/confidantlaw13.FutureApart: function 14 -/
def confidantlaw13_FutureApart.l2 (K : Nat) (a5 : Int) (x6861 : List (List S75)) (t4189 : List Int) (x6858 : List S75) (j8155 : Option Bool) : Nat → Int → Option Bool
  | 0, _ => none
  | n + 1, x8202 => if x8202 < (IntKind.i64.wrap ((IntKind.i64.wrap (Int.tmod a5 10)) + 1)) then (b2 (future_Futures_Get.f K x6861 t4189 (IntKind.i32.wrap x8202)) fun (t8285 : S75) (t8286 : Bool) => (lt (fun (x8298 : Bool) => (if x8298 = true then (some false) else (confidantlaw13_FutureApart.l2 K a5 x6861 t4189 x6858 j8155 n (IntKind.i64.wrap (x8202 + 1))))) fun j8299 => (if t8286 = true then (if 0 ≤ x8202 then (if x8202 < (x6858.length : Int) then (j8299 (!(((t8285.f0 == ((x6858.getD x8202.toNat zS75).f0)) && ((t8285.f1 == ((x6858.getD x8202.toNat zS75).f1)) && ((t8285.f2 == ((x6858.getD x8202.toNat zS75).f2)) && ((t8285.f3 == ((x6858.getD x8202.toNat zS75).f3)) && true))))))) else none) else none) else (j8299 true)))) else (j8155)
def confidantlaw13_FutureApart.l1 (K : Nat) (l6 : List Int) (a5 : Int) (t4189 : List Int) (j6864 : (List S75) → (List (List S75)) → Option Bool) : Nat → (List S75) → (List (List S75)) → Int → Option Bool
  | 0, _, _, _ => none
  | n + 1, x7194, x7197, x7200 => if x7200 < (l6.length : Int) then (lt (fun (x7748 : List (List S75)) (x7751 : List S75) => (confidantlaw13_FutureApart.l1 K l6 a5 t4189 j6864 n x7751 x7748 (IntKind.i64.wrap (x7200 + 1)))) fun j7754 => (if 0 ≤ x7200 then (if (IntKind.i64.wrap ((IntKind.i64.wrap (Int.tmod a5 10)) + 1)) = 0 then none else (lt (Int.tmod (IntKind.i64.wrap (l6.getD x7200.toNat 0)) (IntKind.i64.wrap ((IntKind.i64.wrap (Int.tmod a5 10)) + 1))) fun y7762 => (lt (fun (x7772 : Bool) => (if x7772 = true then (if 0 ≤ y7762 then (if y7762 < (x7194.length : Int) then (lt (x7194.set y7762.toNat (⟨(x7194.getD y7762.toNat zS75).f0, 1, (x7194.getD y7762.toNat zS75).f2, (x7194.getD y7762.toNat zS75).f3⟩ : S75)) fun l7788 => (if y7762 < (l7788.length : Int) then (lt (l7788.set y7762.toNat (⟨(l7788.getD y7762.toNat zS75).f0, (l7788.getD y7762.toNat zS75).f1, IntKind.i32.wrap x7200, (l7788.getD y7762.toNat zS75).f3⟩ : S75)) fun l7790 => (b2 (future_Futures_Keep.f K x7197 t4189 (IntKind.i32.wrap y7762) (IntKind.i32.wrap x7200)) fun (t7791 : List (List S75)) (t7792 : Bool) => (j7754 t7791 l7790))) else none)) else none) else none) else (if 0 ≤ y7762 then (if y7762 < (x7194.length : Int) then (if ((x7194.getD y7762.toNat zS75).f1) = 0 then (lt (x7194.set y7762.toNat (⟨(x7194.getD y7762.toNat zS75).f0, 2, (x7194.getD y7762.toNat zS75).f2, (x7194.getD y7762.toNat zS75).f3⟩ : S75)) fun l7806 => (if y7762 < (l7806.length : Int) then (lt (l7806.set y7762.toNat (⟨(l7806.getD y7762.toNat zS75).f0, (l7806.getD y7762.toNat zS75).f1, (l7806.getD y7762.toNat zS75).f2, x7200⟩ : S75)) fun l7808 => (b2 (future_Futures_Break.f K x7197 t4189 (IntKind.i32.wrap y7762) x7200) fun (t7809 : List (List S75)) (t7810 : Bool) => (j7754 t7809 l7808))) else none)) else (lt (fun (x7840 : List (List S75)) (x7843 : Bool) => (if x7843 = true then (some false) else (j7754 x7840 x7194))) fun j7844 => (b2 (future_Futures_Keep.f K x7197 t4189 (IntKind.i32.wrap y7762) 5) fun (t7845 : List (List S75)) (t7846 : Bool) => (if t7846 = true then (j7844 t7845 true) else (b2 (future_Futures_Break.f K t7845 t4189 (IntKind.i32.wrap y7762) 5) fun (t7851 : List (List S75)) (t7852 : Bool) => (j7844 t7851 t7852)))))) else none) else none))) fun j7773 => (if 0 ≤ y7762 then (if y7762 < (x7194.length : Int) then (if ((x7194.getD y7762.toNat zS75).f1) = 0 then (j7773 (decide ((l6.getD x7200.toNat 0) < 128))) else (j7773 false)) else none) else none)))) else none)) else (j6864 x7194 x7197)
def confidantlaw13_FutureApart.l0 (K : Nat) (a5 : Int) (t4189 : List Int) (j4650 : (List S75) → (List (List S75)) → Option Bool) : Nat → (List S75) → (List (List S75)) → Int → Option Bool
  | 0, _, _, _ => none
  | n + 1, x4723, x4726, x4729 => if x4729 < (IntKind.i64.wrap ((IntKind.i64.wrap (Int.tmod a5 10)) + 1)) then (b3 (future_Futures_Make.f K x4726 t4189 0 x4729) fun (t4857 : List (List S75)) (t4858 : Int) (t4859 : Bool) => (if t4859 = true then (if 0 ≤ x4729 then (if x4729 < (x4723.length : Int) then (lt (x4723.set x4729.toNat (⟨x4729, (x4723.getD x4729.toNat zS75).f1, (x4723.getD x4729.toNat zS75).f2, (x4723.getD x4729.toNat zS75).f3⟩ : S75)) fun l4867 => (confidantlaw13_FutureApart.l0 K a5 t4189 j4650 n l4867 t4857 (IntKind.i64.wrap (x4729 + 1)))) else none) else none) else (some false))) else (j4650 x4723 x4726)
def confidantlaw13_FutureApart.f (K : Nat) (a5 : Int) (l6 : List Int) : Option Bool := b1 (confidantlaw13_known.f K) fun (t4171 : Bool) => (if t4171 = true then (if (l6.length : Int) > 40 then (some true) else (lt ([20] : List Int) fun l4187 => (b2 (future_New.f K l4187) fun (t4188 : List (List S75)) (t4189 : List Int) => (if 0 ≤ (IntKind.i64.wrap ((IntKind.i64.wrap (Int.tmod a5 10)) + 1)) then (if (32 : Int) * (IntKind.i64.wrap ((IntKind.i64.wrap (Int.tmod a5 10)) + 1)) ≤ 140737488355328 then (lt (List.replicate (IntKind.i64.wrap ((IntKind.i64.wrap (Int.tmod a5 10)) + 1)).toNat zS75 : List S75) fun l4203 => (lt (fun (x4644 : List S75) (x4647 : List (List S75)) => (lt (fun (x6858 : List S75) (x6861 : List (List S75)) => (lt (b1 (future_Futures_All.f K x6861 t4189) fun (t8305 : List (List S75)) => (if (t8305.length : Int) = 1 then (b1 (future_Futures_All.f K x6861 t4189) fun (t8310 : List (List S75)) => (if (0 : Int) < (t8310.length : Int) then (some (decide (((t8310.getD (0 : Int).toNat []).length : Int) = (IntKind.i64.wrap ((IntKind.i64.wrap (Int.tmod a5 10)) + 1))))) else none)) else (some false))) fun j8155 => (confidantlaw13_FutureApart.l2 K a5 x6861 t4189 x6858 j8155 K 0))) fun j6864 => (confidantlaw13_FutureApart.l1 K l6 a5 t4189 j6864 K x4644 x4647 0))) fun j4650 => (confidantlaw13_FutureApart.l0 K a5 t4189 j4650 K l4203 t4188 0))) else none) else none)))) else (some false))
set_option maxRecDepth 100000 in
theorem confidantlaw13_FutureApart.calls {K : Nat} {a5 : Int} {l6 : List Int} {A7 : Option Addr} {C8 : Nat} {x4163 : Bool} {B w : World} {os : List Ass} {rs : List Ro} (H : confidantlaw13_FutureApart.f K a5 l6 = some x4163) (hS : St B w (os) (Ro.sl (Kd.int .u8) A7 C8 l6 :: rs)) :
    Calls Try.prog 14 [.int .u8 a5, .slice A7 l6.length C8].toArray w (fun en w' => ∃ v, en = .returned v ∧ v = .bool (x4163) ∧ St B w' (os) (Ro.sl (Kd.int .u8) A7 C8 l6 :: rs)) := by
  unfold confidantlaw13_FutureApart.f at H
  refine calls_of_EW (args := [.int .u8 a5, .slice A7 l6.length C8]) (c := Cd14) 154 Try.func14 (by kernel_rfl) (by kernel_rfl) (by kernel_rfl) ?_
  refine EW.seq (x := Cd14.l) (y := Cd14.r) (by kernel_rfl) ?_
  refine EW.region (id := 0) (ops := Cd14.l.ops) (by kernel_rfl) ?_
  refine EL.quick 1 [0, 1] [(0, .int .u8 a5), (1, .slice A7 l6.length C8)] (by kernel_rfl) ?_
  refine EL.done (by kernel_rfl) ?_
  refine EQ.code ?_
  refine EW.seq (x := Cd14.r.l) (y := Cd14.r.r) (by kernel_rfl) ?_
  refine EW.seq (x := Cd14.r.l.l) (y := Cd14.r.l.r) (by kernel_rfl) ?_
  refine EW.region (id := 1) (ops := Cd14.r.l.l.ops) (by kernel_rfl) ?_
  obtain ⟨t4171, hc4172, H⟩ := b1_out H
  refine EL.of (EO.callD 42 [] _ 16 (by kernel_rfl) (by kernel_rfl) (by kernel_rfl) (confidantlaw13_known.calls hc4172 hS) ?_)
  rintro v w ⟨rfl, hS⟩
  refine EL.quick 1 [0, 1, 17] [(0, .int .u8 a5), (1, .slice A7 l6.length C8), (17, .bool (!(t4171)))] (by kernel_rfl) ?_
  refine EL.done (by kernel_rfl) ?_
  refine EQ.code ?_
  refine EW.condQ (b := !(t4171)) (o := (.tmp 17)) (x := Cd14.r.l.r.l) (y := Cd14.r.l.r.r) (t4171 = true) (false) (by kernel_rfl) (by kernel_rfl) ⟨fun h => (by rw [h] <;> rfl), fun h => (by rw [Bool.eq_false_iff.2 h] <;> rfl)⟩ (fun h4173 => ?_) (fun h4173 => ?_)
  · rw [if_pos h4173] at H
    refine EW.skip (by kernel_rfl) ?_
    refine EQ.code ?_
    refine EW.seq (x := Cd14.r.r.l) (y := Cd14.r.r.r) (by kernel_rfl) ?_
    refine EW.seq (x := Cd14.r.r.l.l) (y := Cd14.r.r.l.r) (by kernel_rfl) ?_
    refine EW.region (id := 3) (ops := Cd14.r.r.l.l.ops) (by kernel_rfl) ?_
    refine EL.quick 3 [0, 1, 20] [(0, .int .u8 a5), (1, .slice A7 l6.length C8), (20, .bool (decide ((l6.length : Int) > 40)))] (by kernel_rfl) ?_
    refine EL.done (by kernel_rfl) ?_
    refine EQ.code ?_
    refine EW.condP (o := (.tmp 20)) (x := Cd14.r.r.l.r.l) (y := Cd14.r.r.l.r.r) ((l6.length : Int) > 40) (by kernel_rfl) (by kernel_rfl) (fun h4175 => ?_) (fun h4175 => ?_)
    · rw [if_pos h4175] at H
      refine EW.seq (x := Cd14.r.r.l.r.l.l) (y := Cd14.r.r.l.r.l.r) (by kernel_rfl) ?_
      refine EW.region (id := 4) (ops := Cd14.r.r.l.r.l.l.ops) (by kernel_rfl) ?_
      refine EL.quick 1 [4] [(4, .bool (true))] (by kernel_rfl) ?_
      refine EL.done (by kernel_rfl) ?_
      refine EQ.code ?_
      refine EW.ret (by kernel_rfl) ?_
      refine EQ.ret ?_
      obtain rfl := Option.some.inj H
      exact EQ.leave (.bool (true)) (by kernel_rfl) ⟨_, rfl, rfl, (hS.re [] [] rfl (sub_self))⟩
    · rw [if_neg h4175] at H
      refine EW.skip (by kernel_rfl) ?_
      refine EQ.code ?_
      refine EW.seq (x := Cd14.r.r.r.l) (y := Cd14.r.r.r.r) (by kernel_rfl) ?_
      refine EW.region (id := 5) (ops := Cd14.r.r.r.l.ops) (by kernel_rfl) ?_
      refine EL.quick 5 [1, 5] [(1, .slice A7 l6.length C8), (5, .int .i64 (IntKind.i64.wrap ((IntKind.i64.wrap (Int.tmod a5 10)) + 1)))] (by kernel_rfl) ?_
      refine EL.done (by kernel_rfl) ?_
      refine EQ.code ?_
      refine EW.seq (x := Cd14.r.r.r.r.l) (y := Cd14.r.r.r.r.r) (by kernel_rfl) ?_
      refine EW.region (id := 6) (ops := Cd14.r.r.r.r.l.ops) (by kernel_rfl) ?_
      obtain ⟨l4187, hl4187, H⟩ := lt_out H
      refine EL.of (EO.lit hS (Kd.int .i64) 3 24 1 #[(0, .int .i64 20)] [.int .i64 20] l4187 25 (by kernel_rfl) (by kernel_rfl) (by kernel_rfl) (fun _ => (by kernel_rfl)) (by rw [hl4187]; rfl) (by kernel_rfl) (fun w G hr => (by rw [hl4187]; exact ⟨[.int .i64 20], [], rfl, rfl, rfl⟩)) ?_)
      intro g4186 w hS
      have hS := St.fr hS 0 rfl
      have hS : St B _ (os) (Ro.sl (Kd.int .i64) (some ⟨g4186, 0, none⟩) 1 l4187 :: Ro.sl (Kd.int .i64) (some ⟨g4186, 0, none⟩) 1 l4187 :: Ro.sl (Kd.int .u8) A7 C8 l6 :: rs) := hS.re [] [] rfl (sub_cons 0 rfl sub_self)
      obtain ⟨t4188, t4189, hc4195, H⟩ := b2_out H
      refine EL.of (EO.callD 44 [.slice (some ⟨g4186, 0, none⟩) l4187.length 1] _ 26 (by kernel_rfl) (by kernel_rfl) (by kernel_rfl) (future_New.calls hc4195 hS) ?_)
      rintro v w ⟨g4190, A4191, C4192, A4193, C4194, rfl, hS⟩
      refine EL.quick 1 [1, 5, 6] [(1, .slice A7 l6.length C8), (5, .int .i64 (IntKind.i64.wrap ((IntKind.i64.wrap (Int.tmod a5 10)) + 1))), (6, .pointer (some ⟨g4190, 0, none⟩))] (by kernel_rfl) ?_
      refine EL.done (by kernel_rfl) ?_
      refine EQ.code ?_
      refine EW.seq (x := Cd14.r.r.r.r.r.l) (y := Cd14.r.r.r.r.r.r) (by kernel_rfl) ?_
      refine EW.region (id := 7) (ops := Cd14.r.r.r.r.r.l.ops) (by kernel_rfl) ?_
      refine EL.quick 1 [1, 5, 6, 27] [(1, .slice A7 l6.length C8), (5, .int .i64 (IntKind.i64.wrap ((IntKind.i64.wrap (Int.tmod a5 10)) + 1))), (6, .pointer (some ⟨g4190, 0, none⟩)), (27, .int .i64 (IntKind.i64.wrap ((IntKind.i64.wrap (Int.tmod a5 10)) + 1)))] (by kernel_rfl) ?_
      obtain ⟨h4201, H⟩ := ite_in H
      obtain ⟨h4202, H⟩ := ite_in H
      obtain ⟨l4203, hl4203, H⟩ := lt_out H
      refine EL.of (EO.make hS kS75 75 87 32 .i64 .i64 (IntKind.i64.wrap ((IntKind.i64.wrap (Int.tmod a5 10)) + 1)) zS75 [.int .i64 0, .int .i64 0, .int .i32 0, .int .i64 0] l4203 hl4203 28 (by kernel_rfl) (by kernel_rfl) (by kernel_rfl) (by kernel_rfl) (by kernel_rfl) h4201 h4202 (fun w G => ⟨[.int .i64 0], [.int .i64 0, .int .i32 0, .int .i64 0], rfl, rfl, ⟨[.int .i64 0], [.int .i32 0, .int .i64 0], rfl, rfl, ⟨[.int .i32 0], [.int .i64 0], rfl, rfl, ⟨[.int .i64 0], [], rfl, rfl, rfl⟩⟩⟩⟩) ?_)
      intro g4200 w hS
      refine EL.quick 1 [1, 5, 6, 7] [(1, .slice A7 l6.length C8), (5, .int .i64 (IntKind.i64.wrap ((IntKind.i64.wrap (Int.tmod a5 10)) + 1))), (6, .pointer (some ⟨g4190, 0, none⟩)), (7, .slice (some ⟨g4200, 0, none⟩) l4203.length ((IntKind.i64.wrap ((IntKind.i64.wrap (Int.tmod a5 10)) + 1)).toNat))] (by kernel_rfl) ?_
      refine EL.done (by kernel_rfl) ?_
      refine EQ.code ?_
      obtain ⟨j4650, hj4650, H⟩ := lt_out H
      refine EW.cut (x := Cd14.r.r.r.r.r.r.l) (y := Cd14.r.r.r.r.r.r.r) (fun a w => ∃ x4644 : List S75, ∃ x4647 : List (List S75), ∃ A4645 : Option Addr, ∃ C4646 : Nat, ∃ A4648 : Option Addr, ∃ C4649 : Nat, Sat 154 [(1, .slice A7 l6.length C8), (5, .int .i64 (IntKind.i64.wrap ((IntKind.i64.wrap (Int.tmod a5 10)) + 1))), (6, .pointer (some ⟨g4190, 0, none⟩)), (7, .slice A4645 x4644.length C4646)] a ∧ St B w (Ass.own 75 kS75 A4645 C4646 x4644 :: Ass.box 99 g4190 [.slice A4648 x4647.length C4649, .slice A4193 t4189.length C4194] :: Ass.deep 87 75 kS75 A4648 C4649 x4647 :: Ass.own 3 (Kd.int .i64) A4193 C4194 t4189 :: os) (Ro.sl (Kd.int .i64) (some ⟨g4186, 0, none⟩) 1 l4187 :: Ro.sl (Kd.int .i64) (some ⟨g4186, 0, none⟩) 1 l4187 :: Ro.sl (Kd.int .u8) A7 C8 l6 :: rs) ∧ j4650 x4644 x4647 = some x4163) (by kernel_rfl) ?_ (fun a w hI => ?_)
      · refine EW.seq (x := Cd14.r.r.r.r.r.r.l.l) (y := Cd14.r.r.r.r.r.r.l.r) (by kernel_rfl) ?_
        refine EW.region (id := 8) (ops := Cd14.r.r.r.r.r.r.l.l.ops) (by kernel_rfl) ?_
        refine EL.quick 1 [1, 5, 6, 7, 8] [(1, .slice A7 l6.length C8), (5, .int .i64 (IntKind.i64.wrap ((IntKind.i64.wrap (Int.tmod a5 10)) + 1))), (6, .pointer (some ⟨g4190, 0, none⟩)), (7, .slice (some ⟨g4200, 0, none⟩) l4203.length ((IntKind.i64.wrap ((IntKind.i64.wrap (Int.tmod a5 10)) + 1)).toNat)), (8, .int .i64 0)] (by kernel_rfl) ?_
        refine EL.done (by kernel_rfl) ?_
        refine EQ.code ?_
        refine EW.block (x := Cd14.r.r.r.r.r.r.l.r.l) (id := 0) (by kernel_rfl) ?_
        refine EW.loop (x := Cd14.r.r.r.r.r.r.l.r.l.l) (fun n a w => ∃ x4723 : List S75, ∃ x4726 : List (List S75), ∃ x4729 : Int, ∃ A4724 : Option Addr, ∃ C4725 : Nat, ∃ A4727 : Option Addr, ∃ C4728 : Nat, Sat 154 [(1, .slice A7 l6.length C8), (5, .int .i64 (IntKind.i64.wrap ((IntKind.i64.wrap (Int.tmod a5 10)) + 1))), (6, .pointer (some ⟨g4190, 0, none⟩)), (7, .slice A4724 x4723.length C4725), (8, .int .i64 x4729)] a ∧ St B w (Ass.own 75 kS75 A4724 C4725 x4723 :: Ass.box 99 g4190 [.slice A4727 x4726.length C4728, .slice A4193 t4189.length C4194] :: Ass.deep 87 75 kS75 A4727 C4728 x4726 :: Ass.own 3 (Kd.int .i64) A4193 C4194 t4189 :: os) (Ro.sl (Kd.int .i64) (some ⟨g4186, 0, none⟩) 1 l4187 :: Ro.sl (Kd.int .i64) (some ⟨g4186, 0, none⟩) 1 l4187 :: Ro.sl (Kd.int .u8) A7 C8 l6 :: rs) ∧ confidantlaw13_FutureApart.l0 K a5 t4189 j4650 n x4723 x4726 x4729 = some x4163) K (by kernel_rfl) ?_ (fun n a w hI => ?_)
        · refine EQ.keep [1, 5, 6, 7, 8] [(1, .slice A7 l6.length C8), (5, .int .i64 (IntKind.i64.wrap ((IntKind.i64.wrap (Int.tmod a5 10)) + 1))), (6, .pointer (some ⟨g4190, 0, none⟩)), (7, .slice (some ⟨g4200, 0, none⟩) l4203.length ((IntKind.i64.wrap ((IntKind.i64.wrap (Int.tmod a5 10)) + 1)).toNat)), (8, .int .i64 0)] (by kernel_rfl) ?_
          exact fun a ha => ⟨l4203, t4188, 0, (some ⟨g4200, 0, none⟩), (IntKind.i64.wrap ((IntKind.i64.wrap (Int.tmod a5 10)) + 1)).toNat, A4191, C4192, ha, (hS.re [3, 3, 3, 3] [] rfl (sub_cons 0 rfl (sub_cons 0 rfl (sub_cons 2 rfl (sub_tail (sub_tail (sub_tail (sub_self)))))))), H⟩
        · obtain ⟨x4723, x4726, x4729, A4724, C4725, A4727, C4728, ha, hS, H⟩ := hI
          obtain _ | n := n
          · simp [confidantlaw13_FutureApart.l0] at H
          rw [confidantlaw13_FutureApart.l0.eq_2] at H
          refine EW.at ?_ a ha
          clear ha a
          refine EW.seq (x := Cd14.r.r.r.r.r.r.l.r.l.l.l) (y := Cd14.r.r.r.r.r.r.l.r.l.l.r) (by kernel_rfl) ?_
          refine EW.seq (x := Cd14.r.r.r.r.r.r.l.r.l.l.l.l) (y := Cd14.r.r.r.r.r.r.l.r.l.l.l.r) (by kernel_rfl) ?_
          refine EW.region (id := 9) (ops := Cd14.r.r.r.r.r.r.l.r.l.l.l.l.ops) (by kernel_rfl) ?_
          refine EL.quick 3 [1, 5, 6, 7, 8, 31] [(1, .slice A7 l6.length C8), (5, .int .i64 (IntKind.i64.wrap ((IntKind.i64.wrap (Int.tmod a5 10)) + 1))), (6, .pointer (some ⟨g4190, 0, none⟩)), (7, .slice A4724 x4723.length C4725), (8, .int .i64 x4729), (31, .bool (decide (x4729 < (IntKind.i64.wrap ((IntKind.i64.wrap (Int.tmod a5 10)) + 1)))))] (by kernel_rfl) ?_
          refine EL.done (by kernel_rfl) ?_
          refine EQ.code ?_
          refine EW.condP (o := (.tmp 31)) (x := Cd14.r.r.r.r.r.r.l.r.l.l.l.r.l) (y := Cd14.r.r.r.r.r.r.l.r.l.l.l.r.r) (x4729 < (IntKind.i64.wrap ((IntKind.i64.wrap (Int.tmod a5 10)) + 1))) (by kernel_rfl) (by kernel_rfl) (fun h4807 => ?_) (fun h4807 => ?_)
          · rw [if_pos h4807] at H
            refine EW.skip (by kernel_rfl) ?_
            refine EQ.code ?_
            refine EW.seq (x := Cd14.r.r.r.r.r.r.l.r.l.l.r.l) (y := Cd14.r.r.r.r.r.r.l.r.l.l.r.r) (by kernel_rfl) ?_
            refine EW.block (x := Cd14.r.r.r.r.r.r.l.r.l.l.r.l.l) (id := 1) (by kernel_rfl) ?_
            refine EW.seq (x := Cd14.r.r.r.r.r.r.l.r.l.l.r.l.l.l) (y := Cd14.r.r.r.r.r.r.l.r.l.l.r.l.l.r) (by kernel_rfl) ?_
            refine EW.seq (x := Cd14.r.r.r.r.r.r.l.r.l.l.r.l.l.l.l) (y := Cd14.r.r.r.r.r.r.l.r.l.l.r.l.l.l.r) (by kernel_rfl) ?_
            refine EW.region (id := 11) (ops := Cd14.r.r.r.r.r.r.l.r.l.l.r.l.l.l.l.ops) (by kernel_rfl) ?_
            refine EL.quick 2 [1, 5, 6, 7, 8, 35, 36] [(1, .slice A7 l6.length C8), (5, .int .i64 (IntKind.i64.wrap ((IntKind.i64.wrap (Int.tmod a5 10)) + 1))), (6, .pointer (some ⟨g4190, 0, none⟩)), (7, .slice A4724 x4723.length C4725), (8, .int .i64 x4729), (35, .pointer (some ⟨g4190, 0, none⟩)), (36, .int .i64 x4729)] (by kernel_rfl) ?_
            have hS : St B _ (Ass.box 99 g4190 [.slice A4727 x4726.length C4728, .slice A4193 t4189.length C4194] :: Ass.deep 87 75 kS75 A4727 C4728 x4726 :: Ass.own 3 (Kd.int .i64) A4193 C4194 t4189 :: Ass.own 75 kS75 A4724 C4725 x4723 :: os) (Ro.sl (Kd.int .i64) (some ⟨g4186, 0, none⟩) 1 l4187 :: Ro.sl (Kd.int .i64) (some ⟨g4186, 0, none⟩) 1 l4187 :: Ro.sl (Kd.int .u8) A7 C8 l6 :: rs) := hS.re [3, 3, 3] [] rfl sub_self
            obtain ⟨t4857, t4858, t4859, hc4862, H⟩ := b3_out H
            refine EL.of (EO.callD 46 [.pointer (some ⟨g4190, 0, none⟩), .int .i64 0, .int .i64 x4729] _ 37 (by kernel_rfl) (by kernel_rfl) (by kernel_rfl) (future_Futures_Make.calls hc4862 hS) ?_)
            rintro v w ⟨A4860, C4861, rfl, hS⟩
            refine EL.quick 5 [1, 5, 6, 7, 8, 10] [(1, .slice A7 l6.length C8), (5, .int .i64 (IntKind.i64.wrap ((IntKind.i64.wrap (Int.tmod a5 10)) + 1))), (6, .pointer (some ⟨g4190, 0, none⟩)), (7, .slice A4724 x4723.length C4725), (8, .int .i64 x4729), (10, .bool (t4859))] (by kernel_rfl) ?_
            refine EL.done (by kernel_rfl) ?_
            refine EQ.code ?_
            refine EW.seq (x := Cd14.r.r.r.r.r.r.l.r.l.l.r.l.l.l.r.l) (y := Cd14.r.r.r.r.r.r.l.r.l.l.r.l.l.l.r.r) (by kernel_rfl) ?_
            refine EW.region (id := 12) (ops := Cd14.r.r.r.r.r.r.l.r.l.l.r.l.l.l.r.l.ops) (by kernel_rfl) ?_
            refine EL.quick 2 [1, 5, 6, 7, 8, 41] [(1, .slice A7 l6.length C8), (5, .int .i64 (IntKind.i64.wrap ((IntKind.i64.wrap (Int.tmod a5 10)) + 1))), (6, .pointer (some ⟨g4190, 0, none⟩)), (7, .slice A4724 x4723.length C4725), (8, .int .i64 x4729), (41, .bool (!(t4859)))] (by kernel_rfl) ?_
            refine EL.done (by kernel_rfl) ?_
            refine EQ.code ?_
            refine EW.condQ (b := !(t4859)) (o := (.tmp 41)) (x := Cd14.r.r.r.r.r.r.l.r.l.l.r.l.l.l.r.r.l) (y := Cd14.r.r.r.r.r.r.l.r.l.l.r.l.l.l.r.r.r) (t4859 = true) (false) (by kernel_rfl) (by kernel_rfl) ⟨fun h => (by rw [h] <;> rfl), fun h => (by rw [Bool.eq_false_iff.2 h] <;> rfl)⟩ (fun h4863 => ?_) (fun h4863 => ?_)
            · rw [if_pos h4863] at H
              refine EW.skip (by kernel_rfl) ?_
              refine EQ.code ?_
              refine EW.region (id := 14) (ops := Cd14.r.r.r.r.r.r.l.r.l.l.r.l.l.r.ops) (by kernel_rfl) ?_
              refine EL.quick 3 [1, 5, 6, 7, 8, 42, 43, 44] [(1, .slice A7 l6.length C8), (5, .int .i64 (IntKind.i64.wrap ((IntKind.i64.wrap (Int.tmod a5 10)) + 1))), (6, .pointer (some ⟨g4190, 0, none⟩)), (7, .slice A4724 x4723.length C4725), (8, .int .i64 x4729), (42, .slice A4724 x4723.length C4725), (43, .int .i64 x4729), (44, .int .i64 x4729)] (by kernel_rfl) ?_
              obtain ⟨h4864, H⟩ := ite_in H
              obtain ⟨h4865, H⟩ := ite_in H
              obtain ⟨ad4866, rfl⟩ := St.rd_some hS (Rd.own 3 75 rfl) h4864 h4865
              refine EL.of (EO.Y (YO.idx 87 4 ad4866 x4723.length C4725 .i64 x4729 45 (by kernel_rfl) (by kernel_rfl) (by kernel_rfl) (by kernel_rfl) h4864 h4865) ?_)
              refine EL.quick 1 [1, 5, 6, 7, 8, 44, 46] [(1, .slice A7 l6.length C8), (5, .int .i64 (IntKind.i64.wrap ((IntKind.i64.wrap (Int.tmod a5 10)) + 1))), (6, .pointer (some ⟨g4190, 0, none⟩)), (7, .slice (some ad4866) x4723.length C4725), (8, .int .i64 x4729), (44, .int .i64 x4729), (46, .pointer (some ((ad4866.add (x4729.toNat * 4)).add 0)))] (by kernel_rfl) ?_
              obtain ⟨l4867, hl4867, H⟩ := lt_out H
              refine EL.of (EO.storeEl hS 3 kS75 75 ad4866 C4725 x4723 rfl x4729 h4864 h4865 zS75 3 4 0 rfl (.int .i64 x4729) (⟨x4729, (x4723.getD x4729.toNat zS75).f1, (x4723.getD x4729.toNat zS75).f2, (x4723.getD x4729.toNat zS75).f3⟩ : S75) l4867 hl4867 (Ass.box 99 g4190 [.slice A4860 t4857.length C4861, .slice A4193 t4189.length C4194] :: Ass.deep 87 75 kS75 A4860 C4861 t4857 :: Ass.own 3 (Kd.int .i64) A4193 C4194 t4189 :: Ass.own 75 kS75 (some ad4866) C4725 l4867 :: os) (by kernel_rfl) (by kernel_rfl) (by kernel_rfl) (by kernel_rfl) (by kernel_rfl) (by kernel_rfl) (fun w G vs hr h => (by have e := encS75_of _ _ _ _ h; subst e; exact ⟨[.int .i64 x4729], [.int .i64 ((x4723.getD x4729.toNat zS75).f1), .int .i32 ((x4723.getD x4729.toNat zS75).f2), .int .i64 ((x4723.getD x4729.toNat zS75).f3)], rfl, rfl, ⟨[.int .i64 ((x4723.getD x4729.toNat zS75).f1)], [.int .i32 ((x4723.getD x4729.toNat zS75).f2), .int .i64 ((x4723.getD x4729.toNat zS75).f3)], rfl, rfl, ⟨[.int .i32 ((x4723.getD x4729.toNat zS75).f2)], [.int .i64 ((x4723.getD x4729.toNat zS75).f3)], rfl, rfl, ⟨[.int .i64 ((x4723.getD x4729.toNat zS75).f3)], [], rfl, rfl, rfl⟩⟩⟩⟩)) rfl ?_)
              intro w hS
              refine EL.keep [1, 5, 6, 7, 8] [(1, .slice A7 l6.length C8), (5, .int .i64 (IntKind.i64.wrap ((IntKind.i64.wrap (Int.tmod a5 10)) + 1))), (6, .pointer (some ⟨g4190, 0, none⟩)), (7, .slice (some ad4866) x4723.length C4725), (8, .int .i64 x4729)] (by kernel_rfl) ?_
              refine EL.as' [(1, .slice A7 l6.length C8), (5, .int .i64 (IntKind.i64.wrap ((IntKind.i64.wrap (Int.tmod a5 10)) + 1))), (6, .pointer (some ⟨g4190, 0, none⟩)), (7, .slice (some ad4866) l4867.length C4725), (8, .int .i64 x4729)] (by simp only [hl4867, List.length_set]) ?_
              refine EL.done (by kernel_rfl) ?_
              refine EQ.pop ?_
              refine EQ.code ?_
              refine EW.region (id := 10) (ops := Cd14.r.r.r.r.r.r.l.r.l.l.r.r.ops) (by kernel_rfl) ?_
              refine EL.quick 3 [1, 5, 6, 7, 8] [(1, .slice A7 l6.length C8), (5, .int .i64 (IntKind.i64.wrap ((IntKind.i64.wrap (Int.tmod a5 10)) + 1))), (6, .pointer (some ⟨g4190, 0, none⟩)), (7, .slice (some ad4866) l4867.length C4725), (8, .int .i64 (IntKind.i64.wrap (x4729 + 1)))] (by kernel_rfl) ?_
              refine EL.done (by kernel_rfl) ?_
              refine EQ.to ?_
              refine EQ.keep [1, 5, 6, 7, 8] [(1, .slice A7 l6.length C8), (5, .int .i64 (IntKind.i64.wrap ((IntKind.i64.wrap (Int.tmod a5 10)) + 1))), (6, .pointer (some ⟨g4190, 0, none⟩)), (7, .slice (some ad4866) l4867.length C4725), (8, .int .i64 (IntKind.i64.wrap (x4729 + 1)))] (by kernel_rfl) ?_
              exact fun a ha => ⟨n, Nat.lt_succ_self n, l4867, t4857, IntKind.i64.wrap (x4729 + 1), (some ad4866), C4725, A4860, C4861, ha, (hS.re [2, 2, 2, 3] [] rfl (sub_cons 0 rfl (sub_cons 0 rfl (sub_cons 2 rfl (sub_tail (sub_tail (sub_tail (sub_self)))))))), H⟩
            · rw [if_neg h4863] at H
              refine EW.seq (x := Cd14.r.r.r.r.r.r.l.r.l.l.r.l.l.l.r.r.l.l) (y := Cd14.r.r.r.r.r.r.l.r.l.l.r.l.l.l.r.r.l.r) (by kernel_rfl) ?_
              refine EW.region (id := 13) (ops := Cd14.r.r.r.r.r.r.l.r.l.l.r.l.l.l.r.r.l.l.ops) (by kernel_rfl) ?_
              refine EL.quick 1 [4] [(4, .bool (false))] (by kernel_rfl) ?_
              refine EL.done (by kernel_rfl) ?_
              refine EQ.code ?_
              refine EW.ret (by kernel_rfl) ?_
              refine EQ.ret ?_
              refine EQ.ret ?_
              refine EQ.ret ?_
              refine EQ.ret ?_
              refine EQ.ret ?_
              refine EQ.ret ?_
              obtain rfl := Option.some.inj H
              exact EQ.leave (.bool (false)) (by kernel_rfl) ⟨_, rfl, rfl, (hS.re [] [0, 0, 0, 0] rfl (sub_tail (sub_tail (sub_self))))⟩
          · rw [if_neg h4807] at H
            refine EW.exit (id := 0) (by kernel_rfl) ?_
            refine EQ.exitCode ?_
            refine EQ.exitTo ?_
            refine EQ.exitHere ?_
            refine EQ.to ?_
            refine EQ.keep [1, 5, 6, 7] [(1, .slice A7 l6.length C8), (5, .int .i64 (IntKind.i64.wrap ((IntKind.i64.wrap (Int.tmod a5 10)) + 1))), (6, .pointer (some ⟨g4190, 0, none⟩)), (7, .slice A4724 x4723.length C4725)] (by kernel_rfl) ?_
            exact fun a ha => ⟨x4723, x4726, A4724, C4725, A4727, C4728, ha, (hS.re [3, 3, 3, 3] [] rfl (sub_cons 0 rfl (sub_cons 0 rfl (sub_cons 2 rfl (sub_tail (sub_tail (sub_tail (sub_self)))))))), H⟩
      · obtain ⟨x4644, x4647, A4645, C4646, A4648, C4649, ha, hS, H⟩ := hI
        rw [hj4650] at H
        (try dsimp only at H)
        refine EW.at ?_ a ha
        clear ha a
        obtain ⟨j6864, hj6864, H⟩ := lt_out H
        refine EW.cut (x := Cd14.r.r.r.r.r.r.r.l) (y := Cd14.r.r.r.r.r.r.r.r) (fun a w => ∃ x6858 : List S75, ∃ x6861 : List (List S75), ∃ A6859 : Option Addr, ∃ C6860 : Nat, ∃ A6862 : Option Addr, ∃ C6863 : Nat, Sat 154 [(5, .int .i64 (IntKind.i64.wrap ((IntKind.i64.wrap (Int.tmod a5 10)) + 1))), (6, .pointer (some ⟨g4190, 0, none⟩)), (7, .slice A6859 x6858.length C6860)] a ∧ St B w (Ass.own 75 kS75 A6859 C6860 x6858 :: Ass.box 99 g4190 [.slice A6862 x6861.length C6863, .slice A4193 t4189.length C4194] :: Ass.deep 87 75 kS75 A6862 C6863 x6861 :: Ass.own 3 (Kd.int .i64) A4193 C4194 t4189 :: os) (Ro.sl (Kd.int .i64) (some ⟨g4186, 0, none⟩) 1 l4187 :: Ro.sl (Kd.int .i64) (some ⟨g4186, 0, none⟩) 1 l4187 :: Ro.sl (Kd.int .u8) A7 C8 l6 :: rs) ∧ j6864 x6858 x6861 = some x4163) (by kernel_rfl) ?_ (fun a w hI => ?_)
        · refine EW.seq (x := Cd14.r.r.r.r.r.r.r.l.l) (y := Cd14.r.r.r.r.r.r.r.l.r) (by kernel_rfl) ?_
          refine EW.region (id := 15) (ops := Cd14.r.r.r.r.r.r.r.l.l.ops) (by kernel_rfl) ?_
          refine EL.quick 1 [1, 5, 6, 7, 11] [(1, .slice A7 l6.length C8), (5, .int .i64 (IntKind.i64.wrap ((IntKind.i64.wrap (Int.tmod a5 10)) + 1))), (6, .pointer (some ⟨g4190, 0, none⟩)), (7, .slice A4645 x4644.length C4646), (11, .int .i64 0)] (by kernel_rfl) ?_
          refine EL.done (by kernel_rfl) ?_
          refine EQ.code ?_
          refine EW.block (x := Cd14.r.r.r.r.r.r.r.l.r.l) (id := 2) (by kernel_rfl) ?_
          refine EW.loop (x := Cd14.r.r.r.r.r.r.r.l.r.l.l) (fun n a w => ∃ x7194 : List S75, ∃ x7197 : List (List S75), ∃ x7200 : Int, ∃ A7195 : Option Addr, ∃ C7196 : Nat, ∃ A7198 : Option Addr, ∃ C7199 : Nat, Sat 154 [(1, .slice A7 l6.length C8), (5, .int .i64 (IntKind.i64.wrap ((IntKind.i64.wrap (Int.tmod a5 10)) + 1))), (6, .pointer (some ⟨g4190, 0, none⟩)), (7, .slice A7195 x7194.length C7196), (11, .int .i64 x7200)] a ∧ St B w (Ass.own 75 kS75 A7195 C7196 x7194 :: Ass.box 99 g4190 [.slice A7198 x7197.length C7199, .slice A4193 t4189.length C4194] :: Ass.deep 87 75 kS75 A7198 C7199 x7197 :: Ass.own 3 (Kd.int .i64) A4193 C4194 t4189 :: os) (Ro.sl (Kd.int .i64) (some ⟨g4186, 0, none⟩) 1 l4187 :: Ro.sl (Kd.int .i64) (some ⟨g4186, 0, none⟩) 1 l4187 :: Ro.sl (Kd.int .u8) A7 C8 l6 :: rs) ∧ confidantlaw13_FutureApart.l1 K l6 a5 t4189 j6864 n x7194 x7197 x7200 = some x4163) K (by kernel_rfl) ?_ (fun n a w hI => ?_)
          · refine EQ.keep [1, 5, 6, 7, 11] [(1, .slice A7 l6.length C8), (5, .int .i64 (IntKind.i64.wrap ((IntKind.i64.wrap (Int.tmod a5 10)) + 1))), (6, .pointer (some ⟨g4190, 0, none⟩)), (7, .slice A4645 x4644.length C4646), (11, .int .i64 0)] (by kernel_rfl) ?_
            exact fun a ha => ⟨x4644, x4647, 0, A4645, C4646, A4648, C4649, ha, (hS.re [3, 3, 3, 3] [] rfl (sub_cons 0 rfl (sub_cons 0 rfl (sub_cons 2 rfl (sub_tail (sub_tail (sub_tail (sub_self)))))))), H⟩
          · obtain ⟨x7194, x7197, x7200, A7195, C7196, A7198, C7199, ha, hS, H⟩ := hI
            obtain _ | n := n
            · simp [confidantlaw13_FutureApart.l1] at H
            rw [confidantlaw13_FutureApart.l1.eq_2] at H
            refine EW.at ?_ a ha
            clear ha a
            refine EW.seq (x := Cd14.r.r.r.r.r.r.r.l.r.l.l.l) (y := Cd14.r.r.r.r.r.r.r.l.r.l.l.r) (by kernel_rfl) ?_
            refine EW.seq (x := Cd14.r.r.r.r.r.r.r.l.r.l.l.l.l) (y := Cd14.r.r.r.r.r.r.r.l.r.l.l.l.r) (by kernel_rfl) ?_
            refine EW.region (id := 16) (ops := Cd14.r.r.r.r.r.r.r.l.r.l.l.l.l.ops) (by kernel_rfl) ?_
            refine EL.quick 4 [1, 5, 6, 7, 11, 50] [(1, .slice A7 l6.length C8), (5, .int .i64 (IntKind.i64.wrap ((IntKind.i64.wrap (Int.tmod a5 10)) + 1))), (6, .pointer (some ⟨g4190, 0, none⟩)), (7, .slice A7195 x7194.length C7196), (11, .int .i64 x7200), (50, .bool (decide (x7200 < (l6.length : Int))))] (by kernel_rfl) ?_
            refine EL.done (by kernel_rfl) ?_
            refine EQ.code ?_
            refine EW.condP (o := (.tmp 50)) (x := Cd14.r.r.r.r.r.r.r.l.r.l.l.l.r.l) (y := Cd14.r.r.r.r.r.r.r.l.r.l.l.l.r.r) (x7200 < (l6.length : Int)) (by kernel_rfl) (by kernel_rfl) (fun h7537 => ?_) (fun h7537 => ?_)
            · rw [if_pos h7537] at H
              refine EW.skip (by kernel_rfl) ?_
              refine EQ.code ?_
              obtain ⟨j7754, hj7754, H⟩ := lt_out H
              refine EW.cut (x := Cd14.r.r.r.r.r.r.r.l.r.l.l.r.l) (y := Cd14.r.r.r.r.r.r.r.l.r.l.l.r.r) (fun a w => ∃ x7748 : List (List S75), ∃ x7751 : List S75, ∃ A7749 : Option Addr, ∃ C7750 : Nat, ∃ A7752 : Option Addr, ∃ C7753 : Nat, Sat 154 [(1, .slice A7 l6.length C8), (5, .int .i64 (IntKind.i64.wrap ((IntKind.i64.wrap (Int.tmod a5 10)) + 1))), (6, .pointer (some ⟨g4190, 0, none⟩)), (7, .slice A7752 x7751.length C7753), (11, .int .i64 x7200)] a ∧ St B w (Ass.box 99 g4190 [.slice A7749 x7748.length C7750, .slice A4193 t4189.length C4194] :: Ass.deep 87 75 kS75 A7749 C7750 x7748 :: Ass.own 3 (Kd.int .i64) A4193 C4194 t4189 :: Ass.own 75 kS75 A7752 C7753 x7751 :: os) (Ro.sl (Kd.int .i64) (some ⟨g4186, 0, none⟩) 1 l4187 :: Ro.sl (Kd.int .i64) (some ⟨g4186, 0, none⟩) 1 l4187 :: Ro.sl (Kd.int .u8) A7 C8 l6 :: rs) ∧ j7754 x7748 x7751 = some x4163) (by kernel_rfl) ?_ (fun a w hI => ?_)
              · refine EW.block (x := Cd14.r.r.r.r.r.r.r.l.r.l.l.r.l.l) (id := 3) (by kernel_rfl) ?_
                refine EW.seq (x := Cd14.r.r.r.r.r.r.r.l.r.l.l.r.l.l.l) (y := Cd14.r.r.r.r.r.r.r.l.r.l.l.r.l.l.r) (by kernel_rfl) ?_
                refine EW.region (id := 18) (ops := Cd14.r.r.r.r.r.r.r.l.r.l.l.r.l.l.l.ops) (by kernel_rfl) ?_
                refine EL.quick 2 [1, 5, 6, 7, 11, 53, 54] [(1, .slice A7 l6.length C8), (5, .int .i64 (IntKind.i64.wrap ((IntKind.i64.wrap (Int.tmod a5 10)) + 1))), (6, .pointer (some ⟨g4190, 0, none⟩)), (7, .slice A7195 x7194.length C7196), (11, .int .i64 x7200), (53, .slice A7 l6.length C8), (54, .int .i64 x7200)] (by kernel_rfl) ?_
                obtain ⟨h7759, H⟩ := ite_in H
                obtain ⟨ad7760, rfl⟩ := St.rd_some hS (Rd.ro 2 rfl) h7759 h7537
                refine EL.of (EO.Y (YO.idx 22 1 ad7760 l6.length C8 .i64 x7200 55 (by kernel_rfl) (by kernel_rfl) (by kernel_rfl) (by kernel_rfl) h7759 h7537) ?_)
                refine EL.of (EO.Y (YO.loadEl hS (Kd.int .u8) ad7760 C8 l6 (Rd.ro 2 rfl) 0 (encI .u8) encI_of x7200 h7759 h7537 5 1 0 1 rfl (.int .u8 (l6.getD x7200.toNat 0)) 56 (by kernel_rfl) (by kernel_rfl) (by kernel_rfl) (by kernel_rfl)) ?_)
                refine EL.quick 2 [1, 5, 6, 7, 11, 57, 58] [(1, .slice (some ad7760) l6.length C8), (5, .int .i64 (IntKind.i64.wrap ((IntKind.i64.wrap (Int.tmod a5 10)) + 1))), (6, .pointer (some ⟨g4190, 0, none⟩)), (7, .slice A7195 x7194.length C7196), (11, .int .i64 x7200), (57, .int .i64 (IntKind.i64.wrap (l6.getD x7200.toNat 0))), (58, .int .i64 (IntKind.i64.wrap ((IntKind.i64.wrap (Int.tmod a5 10)) + 1)))] (by kernel_rfl) ?_
                obtain ⟨h7761, H⟩ := ite_out H
                refine EL.of (EO.Y (YO.div .rem .i64 (IntKind.i64.wrap (l6.getD x7200.toNat 0)) (IntKind.i64.wrap ((IntKind.i64.wrap (Int.tmod a5 10)) + 1)) (Int.tmod (IntKind.i64.wrap (l6.getD x7200.toNat 0)) (IntKind.i64.wrap ((IntKind.i64.wrap (Int.tmod a5 10)) + 1))) 59 (by kernel_rfl) (by kernel_rfl) (by kernel_rfl) h7761 (by first | exact .inl ⟨rfl, rfl⟩ | exact .inr ⟨rfl, rfl⟩)) ?_)
                refine EL.quick 1 [1, 5, 6, 7, 11, 12] [(1, .slice (some ad7760) l6.length C8), (5, .int .i64 (IntKind.i64.wrap ((IntKind.i64.wrap (Int.tmod a5 10)) + 1))), (6, .pointer (some ⟨g4190, 0, none⟩)), (7, .slice A7195 x7194.length C7196), (11, .int .i64 x7200), (12, .int .i64 (Int.tmod (IntKind.i64.wrap (l6.getD x7200.toNat 0)) (IntKind.i64.wrap ((IntKind.i64.wrap (Int.tmod a5 10)) + 1))))] (by kernel_rfl) ?_
                obtain ⟨y7762, hy7762, H⟩ := lt_out H
                refine EL.keep [1, 5, 6, 7, 11, 12] [(1, .slice (some ad7760) l6.length C8), (5, .int .i64 (IntKind.i64.wrap ((IntKind.i64.wrap (Int.tmod a5 10)) + 1))), (6, .pointer (some ⟨g4190, 0, none⟩)), (7, .slice A7195 x7194.length C7196), (11, .int .i64 x7200), (12, .int .i64 (Int.tmod (IntKind.i64.wrap (l6.getD x7200.toNat 0)) (IntKind.i64.wrap ((IntKind.i64.wrap (Int.tmod a5 10)) + 1))))] (by kernel_rfl) ?_
                refine EL.as' [(1, .slice (some ad7760) l6.length C8), (5, .int .i64 (IntKind.i64.wrap ((IntKind.i64.wrap (Int.tmod a5 10)) + 1))), (6, .pointer (some ⟨g4190, 0, none⟩)), (7, .slice A7195 x7194.length C7196), (11, .int .i64 x7200), (12, .int .i64 y7762)] (by subst hy7762; rfl) ?_
                refine EL.done (by kernel_rfl) ?_
                refine EQ.code ?_
                obtain ⟨j7773, hj7773, H⟩ := lt_out H
                refine EW.cut (x := Cd14.r.r.r.r.r.r.r.l.r.l.l.r.l.l.r.l) (y := Cd14.r.r.r.r.r.r.r.l.r.l.l.r.l.l.r.r) (fun a w => ∃ x7772 : Bool, Sat 154 [(1, .slice (some ad7760) l6.length C8), (5, .int .i64 (IntKind.i64.wrap ((IntKind.i64.wrap (Int.tmod a5 10)) + 1))), (6, .pointer (some ⟨g4190, 0, none⟩)), (7, .slice A7195 x7194.length C7196), (11, .int .i64 x7200), (12, .int .i64 y7762), (72, .bool (x7772))] a ∧ St B w (Ass.own 75 kS75 A7195 C7196 x7194 :: Ass.box 99 g4190 [.slice A7198 x7197.length C7199, .slice A4193 t4189.length C4194] :: Ass.deep 87 75 kS75 A7198 C7199 x7197 :: Ass.own 3 (Kd.int .i64) A4193 C4194 t4189 :: os) (Ro.sl (Kd.int .i64) (some ⟨g4186, 0, none⟩) 1 l4187 :: Ro.sl (Kd.int .i64) (some ⟨g4186, 0, none⟩) 1 l4187 :: Ro.sl (Kd.int .u8) (some ad7760) C8 l6 :: rs) ∧ j7773 x7772 = some x4163) (by kernel_rfl) ?_ (fun a w hI => ?_)
                · refine EW.region (id := 19) (ops := Cd14.r.r.r.r.r.r.r.l.r.l.l.r.l.l.r.l.ops) (by kernel_rfl) ?_
                  refine EL.quick 2 [1, 5, 6, 7, 11, 12, 60, 61] [(1, .slice (some ad7760) l6.length C8), (5, .int .i64 (IntKind.i64.wrap ((IntKind.i64.wrap (Int.tmod a5 10)) + 1))), (6, .pointer (some ⟨g4190, 0, none⟩)), (7, .slice A7195 x7194.length C7196), (11, .int .i64 x7200), (12, .int .i64 y7762), (60, .slice A7195 x7194.length C7196), (61, .int .i64 y7762)] (by kernel_rfl) ?_
                  obtain ⟨h7774, H⟩ := ite_in H
                  obtain ⟨h7775, H⟩ := ite_in H
                  obtain ⟨ad7776, rfl⟩ := St.rd_some hS (Rd.own 0 75 rfl) h7774 h7775
                  refine EL.of (EO.Y (YO.idx 87 4 ad7776 x7194.length C7196 .i64 y7762 62 (by kernel_rfl) (by kernel_rfl) (by kernel_rfl) (by kernel_rfl) h7774 h7775) ?_)
                  refine EL.quick 1 [1, 5, 6, 7, 11, 12, 63] [(1, .slice (some ad7760) l6.length C8), (5, .int .i64 (IntKind.i64.wrap ((IntKind.i64.wrap (Int.tmod a5 10)) + 1))), (6, .pointer (some ⟨g4190, 0, none⟩)), (7, .slice (some ad7776) x7194.length C7196), (11, .int .i64 x7200), (12, .int .i64 y7762), (63, .pointer (some ((ad7776.add (y7762.toNat * 4)).add 1)))] (by kernel_rfl) ?_
                  refine EL.of (EO.Y (YO.loadEl hS kS75 ad7776 C7196 x7194 (Rd.own 0 75 rfl) zS75 encS75 encS75_of y7762 h7774 h7775 3 4 1 1 rfl (.int .i64 ((x7194.getD y7762.toNat zS75).f1)) 64 (by kernel_rfl) (by kernel_rfl) (by kernel_rfl) (by kernel_rfl)) ?_)
                  refine EL.quick 2 [1, 5, 6, 7, 11, 12, 66] [(1, .slice (some ad7760) l6.length C8), (5, .int .i64 (IntKind.i64.wrap ((IntKind.i64.wrap (Int.tmod a5 10)) + 1))), (6, .pointer (some ⟨g4190, 0, none⟩)), (7, .slice (some ad7776) x7194.length C7196), (11, .int .i64 x7200), (12, .int .i64 y7762), (66, .bool (decide (((x7194.getD y7762.toNat zS75).f1) = 0)))] (by kernel_rfl) ?_
                  by_cases h7777 : ((x7194.getD y7762.toNat zS75).f1) = 0
                  · rw [if_pos h7777] at H
                    refine EL.keep [1, 5, 6, 7, 11, 12, 66] [(1, .slice (some ad7760) l6.length C8), (5, .int .i64 (IntKind.i64.wrap ((IntKind.i64.wrap (Int.tmod a5 10)) + 1))), (6, .pointer (some ⟨g4190, 0, none⟩)), (7, .slice (some ad7776) x7194.length C7196), (11, .int .i64 x7200), (12, .int .i64 y7762), (66, .bool (decide (((x7194.getD y7762.toNat zS75).f1) = 0)))] (by kernel_rfl) ?_
                    refine EL.as' [(1, .slice (some ad7760) l6.length C8), (5, .int .i64 (IntKind.i64.wrap ((IntKind.i64.wrap (Int.tmod a5 10)) + 1))), (6, .pointer (some ⟨g4190, 0, none⟩)), (7, .slice (some ad7776) x7194.length C7196), (11, .int .i64 x7200), (12, .int .i64 y7762), (66, .bool (true))] (by simp only [dec_t h7777, Bool.not_true, Bool.not_false]) ?_
                    refine EL.quick 2 [1, 5, 6, 7, 11, 12, 66, 67, 68] [(1, .slice (some ad7760) l6.length C8), (5, .int .i64 (IntKind.i64.wrap ((IntKind.i64.wrap (Int.tmod a5 10)) + 1))), (6, .pointer (some ⟨g4190, 0, none⟩)), (7, .slice (some ad7776) x7194.length C7196), (11, .int .i64 x7200), (12, .int .i64 y7762), (66, .bool (true)), (67, .slice (some ad7760) l6.length C8), (68, .int .i64 x7200)] (by kernel_rfl) ?_
                    refine EL.of (EO.Y (YO.idx 22 1 ad7760 l6.length C8 .i64 x7200 69 (by kernel_rfl) (by kernel_rfl) (by kernel_rfl) (by kernel_rfl) h7759 h7537) ?_)
                    refine EL.of (EO.Y (YO.loadEl hS (Kd.int .u8) ad7760 C8 l6 (Rd.ro 2 rfl) 0 (encI .u8) encI_of x7200 h7759 h7537 5 1 0 1 rfl (.int .u8 (l6.getD x7200.toNat 0)) 70 (by kernel_rfl) (by kernel_rfl) (by kernel_rfl) (by kernel_rfl)) ?_)
                    refine EL.quick 2 [1, 5, 6, 7, 11, 12, 67, 68, 69, 70, 71, 72] [(1, .slice (some ad7760) l6.length C8), (5, .int .i64 (IntKind.i64.wrap ((IntKind.i64.wrap (Int.tmod a5 10)) + 1))), (6, .pointer (some ⟨g4190, 0, none⟩)), (7, .slice (some ad7776) x7194.length C7196), (11, .int .i64 x7200), (12, .int .i64 y7762), (67, .slice (some ad7760) l6.length C8), (68, .int .i64 x7200), (69, .pointer (some ((ad7760.add (x7200.toNat * 1)).add 0))), (70, .int .u8 (l6.getD x7200.toNat 0)), (71, .bool (decide ((l6.getD x7200.toNat 0) < 128))), (72, .bool (decide ((l6.getD x7200.toNat 0) < 128)))] (by kernel_rfl) ?_
                    refine EL.done (by kernel_rfl) ?_
                    refine EQ.to ?_
                    refine EQ.keep [1, 5, 6, 7, 11, 12, 72] [(1, .slice (some ad7760) l6.length C8), (5, .int .i64 (IntKind.i64.wrap ((IntKind.i64.wrap (Int.tmod a5 10)) + 1))), (6, .pointer (some ⟨g4190, 0, none⟩)), (7, .slice (some ad7776) x7194.length C7196), (11, .int .i64 x7200), (12, .int .i64 y7762), (72, .bool (decide ((l6.getD x7200.toNat 0) < 128)))] (by kernel_rfl) ?_
                    exact fun a ha => ⟨decide ((l6.getD x7200.toNat 0) < 128), ha, (hS.re [3, 3, 3, 3] [] rfl (sub_cons 0 rfl (sub_cons 0 rfl (sub_cons 2 rfl (sub_tail (sub_tail (sub_tail (sub_self)))))))), H⟩
                  · rw [if_neg h7777] at H
                    refine EL.keep [1, 5, 6, 7, 11, 12, 66] [(1, .slice (some ad7760) l6.length C8), (5, .int .i64 (IntKind.i64.wrap ((IntKind.i64.wrap (Int.tmod a5 10)) + 1))), (6, .pointer (some ⟨g4190, 0, none⟩)), (7, .slice (some ad7776) x7194.length C7196), (11, .int .i64 x7200), (12, .int .i64 y7762), (66, .bool (decide (((x7194.getD y7762.toNat zS75).f1) = 0)))] (by kernel_rfl) ?_
                    refine EL.as' [(1, .slice (some ad7760) l6.length C8), (5, .int .i64 (IntKind.i64.wrap ((IntKind.i64.wrap (Int.tmod a5 10)) + 1))), (6, .pointer (some ⟨g4190, 0, none⟩)), (7, .slice (some ad7776) x7194.length C7196), (11, .int .i64 x7200), (12, .int .i64 y7762), (66, .bool (false))] (by simp only [dec_f h7777, Bool.not_true, Bool.not_false]) ?_
                    refine EL.quick 6 [1, 5, 6, 7, 11, 12, 72] [(1, .slice (some ad7760) l6.length C8), (5, .int .i64 (IntKind.i64.wrap ((IntKind.i64.wrap (Int.tmod a5 10)) + 1))), (6, .pointer (some ⟨g4190, 0, none⟩)), (7, .slice (some ad7776) x7194.length C7196), (11, .int .i64 x7200), (12, .int .i64 y7762), (72, .bool (false))] (by kernel_rfl) ?_
                    refine EL.done (by kernel_rfl) ?_
                    refine EQ.to ?_
                    refine EQ.keep [1, 5, 6, 7, 11, 12, 72] [(1, .slice (some ad7760) l6.length C8), (5, .int .i64 (IntKind.i64.wrap ((IntKind.i64.wrap (Int.tmod a5 10)) + 1))), (6, .pointer (some ⟨g4190, 0, none⟩)), (7, .slice (some ad7776) x7194.length C7196), (11, .int .i64 x7200), (12, .int .i64 y7762), (72, .bool (false))] (by kernel_rfl) ?_
                    exact fun a ha => ⟨false, ha, (hS.re [3, 3, 3, 3] [] rfl (sub_cons 0 rfl (sub_cons 0 rfl (sub_cons 2 rfl (sub_tail (sub_tail (sub_tail (sub_self)))))))), H⟩
                · obtain ⟨x7772, ha, hS, H⟩ := hI
                  rw [hj7773] at H
                  (try dsimp only at H)
                  refine EW.at ?_ a ha
                  clear ha a
                  refine EW.condP' (o := (.tmp 72)) (x := Cd14.r.r.r.r.r.r.r.l.r.l.l.r.l.l.r.r.l) (y := Cd14.r.r.r.r.r.r.r.l.r.l.l.r.l.l.r.r.r) (x7772) (by kernel_rfl) (by kernel_rfl) (fun h7778 => ?_) (fun h7778 => ?_)
                  · rw [if_pos h7778] at H
                    refine EW.seq (x := Cd14.r.r.r.r.r.r.r.l.r.l.l.r.l.l.r.r.l.l) (y := Cd14.r.r.r.r.r.r.r.l.r.l.l.r.l.l.r.r.l.r) (by kernel_rfl) ?_
                    refine EW.region (id := 20) (ops := Cd14.r.r.r.r.r.r.r.l.r.l.l.r.l.l.r.r.l.l.ops) (by kernel_rfl) ?_
                    refine EL.quick 6 [1, 5, 6, 7, 11, 12, 73, 74, 75, 76, 78] [(1, .slice (some ad7760) l6.length C8), (5, .int .i64 (IntKind.i64.wrap ((IntKind.i64.wrap (Int.tmod a5 10)) + 1))), (6, .pointer (some ⟨g4190, 0, none⟩)), (7, .slice A7195 x7194.length C7196), (11, .int .i64 x7200), (12, .int .i64 y7762), (73, .slice A7195 x7194.length C7196), (74, .int .i64 y7762), (75, .slice A7195 x7194.length C7196), (76, .int .i64 y7762), (78, .int .i32 (IntKind.i32.wrap x7200))] (by kernel_rfl) ?_
                    obtain ⟨h7785, H⟩ := ite_in H
                    obtain ⟨h7786, H⟩ := ite_in H
                    obtain ⟨ad7787, rfl⟩ := St.rd_some hS (Rd.own 0 75 rfl) h7785 h7786
                    refine EL.of (EO.Y (YO.idx 87 4 ad7787 x7194.length C7196 .i64 y7762 79 (by kernel_rfl) (by kernel_rfl) (by kernel_rfl) (by kernel_rfl) h7785 h7786) ?_)
                    refine EL.quick 1 [1, 5, 6, 7, 11, 12, 75, 76, 78, 80] [(1, .slice (some ad7760) l6.length C8), (5, .int .i64 (IntKind.i64.wrap ((IntKind.i64.wrap (Int.tmod a5 10)) + 1))), (6, .pointer (some ⟨g4190, 0, none⟩)), (7, .slice (some ad7787) x7194.length C7196), (11, .int .i64 x7200), (12, .int .i64 y7762), (75, .slice (some ad7787) x7194.length C7196), (76, .int .i64 y7762), (78, .int .i32 (IntKind.i32.wrap x7200)), (80, .pointer (some ((ad7787.add (y7762.toNat * 4)).add 1)))] (by kernel_rfl) ?_
                    obtain ⟨l7788, hl7788, H⟩ := lt_out H
                    refine EL.of (EO.storeEl hS 0 kS75 75 ad7787 C7196 x7194 rfl y7762 h7785 h7786 zS75 3 4 1 rfl (.int .i64 1) (⟨(x7194.getD y7762.toNat zS75).f0, 1, (x7194.getD y7762.toNat zS75).f2, (x7194.getD y7762.toNat zS75).f3⟩ : S75) l7788 hl7788 (Ass.own 75 kS75 (some ad7787) C7196 l7788 :: Ass.box 99 g4190 [.slice A7198 x7197.length C7199, .slice A4193 t4189.length C4194] :: Ass.deep 87 75 kS75 A7198 C7199 x7197 :: Ass.own 3 (Kd.int .i64) A4193 C4194 t4189 :: os) (by kernel_rfl) (by kernel_rfl) (by kernel_rfl) (by kernel_rfl) (by kernel_rfl) (by kernel_rfl) (fun w G vs hr h => (by have e := encS75_of _ _ _ _ h; subst e; exact ⟨[.int .i64 ((x7194.getD y7762.toNat zS75).f0)], [.int .i64 1, .int .i32 ((x7194.getD y7762.toNat zS75).f2), .int .i64 ((x7194.getD y7762.toNat zS75).f3)], rfl, rfl, ⟨[.int .i64 1], [.int .i32 ((x7194.getD y7762.toNat zS75).f2), .int .i64 ((x7194.getD y7762.toNat zS75).f3)], rfl, rfl, ⟨[.int .i32 ((x7194.getD y7762.toNat zS75).f2)], [.int .i64 ((x7194.getD y7762.toNat zS75).f3)], rfl, rfl, ⟨[.int .i64 ((x7194.getD y7762.toNat zS75).f3)], [], rfl, rfl, rfl⟩⟩⟩⟩)) rfl ?_)
                    intro w hS
                    refine EL.keep [1, 5, 6, 7, 11, 12, 75, 76, 78] [(1, .slice (some ad7760) l6.length C8), (5, .int .i64 (IntKind.i64.wrap ((IntKind.i64.wrap (Int.tmod a5 10)) + 1))), (6, .pointer (some ⟨g4190, 0, none⟩)), (7, .slice (some ad7787) x7194.length C7196), (11, .int .i64 x7200), (12, .int .i64 y7762), (75, .slice (some ad7787) x7194.length C7196), (76, .int .i64 y7762), (78, .int .i32 (IntKind.i32.wrap x7200))] (by kernel_rfl) ?_
                    refine EL.as' [(1, .slice (some ad7760) l6.length C8), (5, .int .i64 (IntKind.i64.wrap ((IntKind.i64.wrap (Int.tmod a5 10)) + 1))), (6, .pointer (some ⟨g4190, 0, none⟩)), (7, .slice (some ad7787) l7788.length C7196), (11, .int .i64 x7200), (12, .int .i64 y7762), (75, .slice (some ad7787) l7788.length C7196), (76, .int .i64 y7762), (78, .int .i32 (IntKind.i32.wrap x7200))] (by simp only [hl7788, List.length_set]) ?_
                    obtain ⟨h7789, H⟩ := ite_in H
                    refine EL.of (EO.Y (YO.idx 87 4 ad7787 l7788.length C7196 .i64 y7762 81 (by kernel_rfl) (by kernel_rfl) (by kernel_rfl) (by kernel_rfl) h7785 h7789) ?_)
                    refine EL.quick 1 [1, 5, 6, 7, 11, 12, 78, 82] [(1, .slice (some ad7760) l6.length C8), (5, .int .i64 (IntKind.i64.wrap ((IntKind.i64.wrap (Int.tmod a5 10)) + 1))), (6, .pointer (some ⟨g4190, 0, none⟩)), (7, .slice (some ad7787) l7788.length C7196), (11, .int .i64 x7200), (12, .int .i64 y7762), (78, .int .i32 (IntKind.i32.wrap x7200)), (82, .pointer (some ((ad7787.add (y7762.toNat * 4)).add 2)))] (by kernel_rfl) ?_
                    obtain ⟨l7790, hl7790, H⟩ := lt_out H
                    refine EL.of (EO.storeEl hS 0 kS75 75 ad7787 C7196 l7788 rfl y7762 h7785 h7789 zS75 21 4 2 rfl (.int .i32 (IntKind.i32.wrap x7200)) (⟨(l7788.getD y7762.toNat zS75).f0, (l7788.getD y7762.toNat zS75).f1, IntKind.i32.wrap x7200, (l7788.getD y7762.toNat zS75).f3⟩ : S75) l7790 hl7790 (Ass.own 75 kS75 (some ad7787) C7196 l7790 :: Ass.box 99 g4190 [.slice A7198 x7197.length C7199, .slice A4193 t4189.length C4194] :: Ass.deep 87 75 kS75 A7198 C7199 x7197 :: Ass.own 3 (Kd.int .i64) A4193 C4194 t4189 :: os) (by kernel_rfl) (by kernel_rfl) (by kernel_rfl) (by kernel_rfl) (by kernel_rfl) (by kernel_rfl) (fun w G vs hr h => (by have e := encS75_of _ _ _ _ h; subst e; exact ⟨[.int .i64 ((l7788.getD y7762.toNat zS75).f0)], [.int .i64 ((l7788.getD y7762.toNat zS75).f1), .int .i32 (IntKind.i32.wrap x7200), .int .i64 ((l7788.getD y7762.toNat zS75).f3)], rfl, rfl, ⟨[.int .i64 ((l7788.getD y7762.toNat zS75).f1)], [.int .i32 (IntKind.i32.wrap x7200), .int .i64 ((l7788.getD y7762.toNat zS75).f3)], rfl, rfl, ⟨[.int .i32 (IntKind.i32.wrap x7200)], [.int .i64 ((l7788.getD y7762.toNat zS75).f3)], rfl, rfl, ⟨[.int .i64 ((l7788.getD y7762.toNat zS75).f3)], [], rfl, rfl, rfl⟩⟩⟩⟩)) rfl ?_)
                    intro w hS
                    refine EL.keep [1, 5, 6, 7, 11, 12] [(1, .slice (some ad7760) l6.length C8), (5, .int .i64 (IntKind.i64.wrap ((IntKind.i64.wrap (Int.tmod a5 10)) + 1))), (6, .pointer (some ⟨g4190, 0, none⟩)), (7, .slice (some ad7787) l7788.length C7196), (11, .int .i64 x7200), (12, .int .i64 y7762)] (by kernel_rfl) ?_
                    refine EL.as' [(1, .slice (some ad7760) l6.length C8), (5, .int .i64 (IntKind.i64.wrap ((IntKind.i64.wrap (Int.tmod a5 10)) + 1))), (6, .pointer (some ⟨g4190, 0, none⟩)), (7, .slice (some ad7787) l7790.length C7196), (11, .int .i64 x7200), (12, .int .i64 y7762)] (by simp only [hl7790, List.length_set]) ?_
                    refine EL.done (by kernel_rfl) ?_
                    refine EQ.code ?_
                    refine EW.region (id := 21) (ops := Cd14.r.r.r.r.r.r.r.l.r.l.l.r.l.l.r.r.l.r.ops) (by kernel_rfl) ?_
                    refine EL.quick 5 [1, 5, 6, 7, 11, 83, 85, 87] [(1, .slice (some ad7760) l6.length C8), (5, .int .i64 (IntKind.i64.wrap ((IntKind.i64.wrap (Int.tmod a5 10)) + 1))), (6, .pointer (some ⟨g4190, 0, none⟩)), (7, .slice (some ad7787) l7790.length C7196), (11, .int .i64 x7200), (83, .pointer (some ⟨g4190, 0, none⟩)), (85, .int .i32 (IntKind.i32.wrap y7762)), (87, .int .i32 (IntKind.i32.wrap x7200))] (by kernel_rfl) ?_
                    have hS : St B _ (Ass.box 99 g4190 [.slice A7198 x7197.length C7199, .slice A4193 t4189.length C4194] :: Ass.deep 87 75 kS75 A7198 C7199 x7197 :: Ass.own 3 (Kd.int .i64) A4193 C4194 t4189 :: Ass.own 75 kS75 (some ad7787) C7196 l7790 :: os) (Ro.sl (Kd.int .i64) (some ⟨g4186, 0, none⟩) 1 l4187 :: Ro.sl (Kd.int .i64) (some ⟨g4186, 0, none⟩) 1 l4187 :: Ro.sl (Kd.int .u8) (some ad7760) C8 l6 :: rs) := hS.re [3, 3, 3] [] rfl sub_self
                    obtain ⟨t7791, t7792, hc7795, H⟩ := b2_out H
                    refine EL.of (EO.callD 48 [.pointer (some ⟨g4190, 0, none⟩), .int .i32 (IntKind.i32.wrap y7762), .int .i32 (IntKind.i32.wrap x7200)] _ 88 (by kernel_rfl) (by kernel_rfl) (by kernel_rfl) (future_Futures_Keep.calls hc7795 hS) ?_)
                    rintro v w ⟨A7793, C7794, rfl, hS⟩
                    refine EL.done (by kernel_rfl) ?_
                    refine EQ.pop ?_
                    refine EQ.to ?_
                    refine EQ.keep [1, 5, 6, 7, 11] [(1, .slice (some ad7760) l6.length C8), (5, .int .i64 (IntKind.i64.wrap ((IntKind.i64.wrap (Int.tmod a5 10)) + 1))), (6, .pointer (some ⟨g4190, 0, none⟩)), (7, .slice (some ad7787) l7790.length C7196), (11, .int .i64 x7200)] (by kernel_rfl) ?_
                    exact fun a ha => ⟨t7791, l7790, A7793, C7794, (some ad7787), C7196, ha, (hS.re [3, 3, 3, 3] [] rfl (sub_cons 0 rfl (sub_cons 0 rfl (sub_cons 2 rfl (sub_tail (sub_tail (sub_tail (sub_self)))))))), H⟩
                  · rw [if_neg h7778] at H
                    refine EW.seq (x := Cd14.r.r.r.r.r.r.r.l.r.l.l.r.l.l.r.r.r.l) (y := Cd14.r.r.r.r.r.r.r.l.r.l.l.r.l.l.r.r.r.r) (by kernel_rfl) ?_
                    refine EW.region (id := 22) (ops := Cd14.r.r.r.r.r.r.r.l.r.l.l.r.l.l.r.r.r.l.ops) (by kernel_rfl) ?_
                    refine EL.quick 2 [1, 5, 6, 7, 11, 12, 89, 90] [(1, .slice (some ad7760) l6.length C8), (5, .int .i64 (IntKind.i64.wrap ((IntKind.i64.wrap (Int.tmod a5 10)) + 1))), (6, .pointer (some ⟨g4190, 0, none⟩)), (7, .slice A7195 x7194.length C7196), (11, .int .i64 x7200), (12, .int .i64 y7762), (89, .slice A7195 x7194.length C7196), (90, .int .i64 y7762)] (by kernel_rfl) ?_
                    obtain ⟨h7799, H⟩ := ite_in H
                    obtain ⟨h7800, H⟩ := ite_in H
                    obtain ⟨ad7801, rfl⟩ := St.rd_some hS (Rd.own 0 75 rfl) h7799 h7800
                    refine EL.of (EO.Y (YO.idx 87 4 ad7801 x7194.length C7196 .i64 y7762 91 (by kernel_rfl) (by kernel_rfl) (by kernel_rfl) (by kernel_rfl) h7799 h7800) ?_)
                    refine EL.quick 1 [1, 5, 6, 7, 11, 12, 92] [(1, .slice (some ad7760) l6.length C8), (5, .int .i64 (IntKind.i64.wrap ((IntKind.i64.wrap (Int.tmod a5 10)) + 1))), (6, .pointer (some ⟨g4190, 0, none⟩)), (7, .slice (some ad7801) x7194.length C7196), (11, .int .i64 x7200), (12, .int .i64 y7762), (92, .pointer (some ((ad7801.add (y7762.toNat * 4)).add 1)))] (by kernel_rfl) ?_
                    refine EL.of (EO.Y (YO.loadEl hS kS75 ad7801 C7196 x7194 (Rd.own 0 75 rfl) zS75 encS75 encS75_of y7762 h7799 h7800 3 4 1 1 rfl (.int .i64 ((x7194.getD y7762.toNat zS75).f1)) 93 (by kernel_rfl) (by kernel_rfl) (by kernel_rfl) (by kernel_rfl)) ?_)
                    refine EL.quick 1 [1, 5, 6, 7, 11, 12, 94] [(1, .slice (some ad7760) l6.length C8), (5, .int .i64 (IntKind.i64.wrap ((IntKind.i64.wrap (Int.tmod a5 10)) + 1))), (6, .pointer (some ⟨g4190, 0, none⟩)), (7, .slice (some ad7801) x7194.length C7196), (11, .int .i64 x7200), (12, .int .i64 y7762), (94, .bool (decide (((x7194.getD y7762.toNat zS75).f1) = 0)))] (by kernel_rfl) ?_
                    refine EL.done (by kernel_rfl) ?_
                    refine EQ.code ?_
                    refine EW.condP (o := (.tmp 94)) (x := Cd14.r.r.r.r.r.r.r.l.r.l.l.r.l.l.r.r.r.r.l) (y := Cd14.r.r.r.r.r.r.r.l.r.l.l.r.l.l.r.r.r.r.r) (((x7194.getD y7762.toNat zS75).f1) = 0) (by kernel_rfl) (by kernel_rfl) (fun h7802 => ?_) (fun h7802 => ?_)
                    · rw [if_pos h7802] at H
                      refine EW.seq (x := Cd14.r.r.r.r.r.r.r.l.r.l.l.r.l.l.r.r.r.r.l.l) (y := Cd14.r.r.r.r.r.r.r.l.r.l.l.r.l.l.r.r.r.r.l.r) (by kernel_rfl) ?_
                      refine EW.region (id := 23) (ops := Cd14.r.r.r.r.r.r.r.l.r.l.l.r.l.l.r.r.r.r.l.l.ops) (by kernel_rfl) ?_
                      refine EL.quick 5 [1, 5, 6, 7, 11, 12, 95, 96, 97, 98, 99] [(1, .slice (some ad7760) l6.length C8), (5, .int .i64 (IntKind.i64.wrap ((IntKind.i64.wrap (Int.tmod a5 10)) + 1))), (6, .pointer (some ⟨g4190, 0, none⟩)), (7, .slice (some ad7801) x7194.length C7196), (11, .int .i64 x7200), (12, .int .i64 y7762), (95, .slice (some ad7801) x7194.length C7196), (96, .int .i64 y7762), (97, .slice (some ad7801) x7194.length C7196), (98, .int .i64 y7762), (99, .int .i64 x7200)] (by kernel_rfl) ?_
                      refine EL.of (EO.Y (YO.idx 87 4 ad7801 x7194.length C7196 .i64 y7762 100 (by kernel_rfl) (by kernel_rfl) (by kernel_rfl) (by kernel_rfl) h7799 h7800) ?_)
                      refine EL.quick 1 [1, 5, 6, 7, 11, 12, 97, 98, 99, 101] [(1, .slice (some ad7760) l6.length C8), (5, .int .i64 (IntKind.i64.wrap ((IntKind.i64.wrap (Int.tmod a5 10)) + 1))), (6, .pointer (some ⟨g4190, 0, none⟩)), (7, .slice (some ad7801) x7194.length C7196), (11, .int .i64 x7200), (12, .int .i64 y7762), (97, .slice (some ad7801) x7194.length C7196), (98, .int .i64 y7762), (99, .int .i64 x7200), (101, .pointer (some ((ad7801.add (y7762.toNat * 4)).add 1)))] (by kernel_rfl) ?_
                      obtain ⟨l7806, hl7806, H⟩ := lt_out H
                      refine EL.of (EO.storeEl hS 0 kS75 75 ad7801 C7196 x7194 rfl y7762 h7799 h7800 zS75 3 4 1 rfl (.int .i64 2) (⟨(x7194.getD y7762.toNat zS75).f0, 2, (x7194.getD y7762.toNat zS75).f2, (x7194.getD y7762.toNat zS75).f3⟩ : S75) l7806 hl7806 (Ass.own 75 kS75 (some ad7801) C7196 l7806 :: Ass.box 99 g4190 [.slice A7198 x7197.length C7199, .slice A4193 t4189.length C4194] :: Ass.deep 87 75 kS75 A7198 C7199 x7197 :: Ass.own 3 (Kd.int .i64) A4193 C4194 t4189 :: os) (by kernel_rfl) (by kernel_rfl) (by kernel_rfl) (by kernel_rfl) (by kernel_rfl) (by kernel_rfl) (fun w G vs hr h => (by have e := encS75_of _ _ _ _ h; subst e; exact ⟨[.int .i64 ((x7194.getD y7762.toNat zS75).f0)], [.int .i64 2, .int .i32 ((x7194.getD y7762.toNat zS75).f2), .int .i64 ((x7194.getD y7762.toNat zS75).f3)], rfl, rfl, ⟨[.int .i64 2], [.int .i32 ((x7194.getD y7762.toNat zS75).f2), .int .i64 ((x7194.getD y7762.toNat zS75).f3)], rfl, rfl, ⟨[.int .i32 ((x7194.getD y7762.toNat zS75).f2)], [.int .i64 ((x7194.getD y7762.toNat zS75).f3)], rfl, rfl, ⟨[.int .i64 ((x7194.getD y7762.toNat zS75).f3)], [], rfl, rfl, rfl⟩⟩⟩⟩)) rfl ?_)
                      intro w hS
                      refine EL.keep [1, 5, 6, 7, 11, 12, 97, 98, 99] [(1, .slice (some ad7760) l6.length C8), (5, .int .i64 (IntKind.i64.wrap ((IntKind.i64.wrap (Int.tmod a5 10)) + 1))), (6, .pointer (some ⟨g4190, 0, none⟩)), (7, .slice (some ad7801) x7194.length C7196), (11, .int .i64 x7200), (12, .int .i64 y7762), (97, .slice (some ad7801) x7194.length C7196), (98, .int .i64 y7762), (99, .int .i64 x7200)] (by kernel_rfl) ?_
                      refine EL.as' [(1, .slice (some ad7760) l6.length C8), (5, .int .i64 (IntKind.i64.wrap ((IntKind.i64.wrap (Int.tmod a5 10)) + 1))), (6, .pointer (some ⟨g4190, 0, none⟩)), (7, .slice (some ad7801) l7806.length C7196), (11, .int .i64 x7200), (12, .int .i64 y7762), (97, .slice (some ad7801) l7806.length C7196), (98, .int .i64 y7762), (99, .int .i64 x7200)] (by simp only [hl7806, List.length_set]) ?_
                      obtain ⟨h7807, H⟩ := ite_in H
                      refine EL.of (EO.Y (YO.idx 87 4 ad7801 l7806.length C7196 .i64 y7762 102 (by kernel_rfl) (by kernel_rfl) (by kernel_rfl) (by kernel_rfl) h7799 h7807) ?_)
                      refine EL.quick 1 [1, 5, 6, 7, 11, 12, 99, 103] [(1, .slice (some ad7760) l6.length C8), (5, .int .i64 (IntKind.i64.wrap ((IntKind.i64.wrap (Int.tmod a5 10)) + 1))), (6, .pointer (some ⟨g4190, 0, none⟩)), (7, .slice (some ad7801) l7806.length C7196), (11, .int .i64 x7200), (12, .int .i64 y7762), (99, .int .i64 x7200), (103, .pointer (some ((ad7801.add (y7762.toNat * 4)).add 3)))] (by kernel_rfl) ?_
                      obtain ⟨l7808, hl7808, H⟩ := lt_out H
                      refine EL.of (EO.storeEl hS 0 kS75 75 ad7801 C7196 l7806 rfl y7762 h7799 h7807 zS75 73 4 3 rfl (.int .i64 x7200) (⟨(l7806.getD y7762.toNat zS75).f0, (l7806.getD y7762.toNat zS75).f1, (l7806.getD y7762.toNat zS75).f2, x7200⟩ : S75) l7808 hl7808 (Ass.own 75 kS75 (some ad7801) C7196 l7808 :: Ass.box 99 g4190 [.slice A7198 x7197.length C7199, .slice A4193 t4189.length C4194] :: Ass.deep 87 75 kS75 A7198 C7199 x7197 :: Ass.own 3 (Kd.int .i64) A4193 C4194 t4189 :: os) (by kernel_rfl) (by kernel_rfl) (by kernel_rfl) (by kernel_rfl) (by kernel_rfl) (by kernel_rfl) (fun w G vs hr h => (by have e := encS75_of _ _ _ _ h; subst e; exact ⟨[.int .i64 ((l7806.getD y7762.toNat zS75).f0)], [.int .i64 ((l7806.getD y7762.toNat zS75).f1), .int .i32 ((l7806.getD y7762.toNat zS75).f2), .int .i64 x7200], rfl, rfl, ⟨[.int .i64 ((l7806.getD y7762.toNat zS75).f1)], [.int .i32 ((l7806.getD y7762.toNat zS75).f2), .int .i64 x7200], rfl, rfl, ⟨[.int .i32 ((l7806.getD y7762.toNat zS75).f2)], [.int .i64 x7200], rfl, rfl, ⟨[.int .i64 x7200], [], rfl, rfl, rfl⟩⟩⟩⟩)) rfl ?_)
                      intro w hS
                      refine EL.keep [1, 5, 6, 7, 11, 12] [(1, .slice (some ad7760) l6.length C8), (5, .int .i64 (IntKind.i64.wrap ((IntKind.i64.wrap (Int.tmod a5 10)) + 1))), (6, .pointer (some ⟨g4190, 0, none⟩)), (7, .slice (some ad7801) l7806.length C7196), (11, .int .i64 x7200), (12, .int .i64 y7762)] (by kernel_rfl) ?_
                      refine EL.as' [(1, .slice (some ad7760) l6.length C8), (5, .int .i64 (IntKind.i64.wrap ((IntKind.i64.wrap (Int.tmod a5 10)) + 1))), (6, .pointer (some ⟨g4190, 0, none⟩)), (7, .slice (some ad7801) l7808.length C7196), (11, .int .i64 x7200), (12, .int .i64 y7762)] (by simp only [hl7808, List.length_set]) ?_
                      refine EL.done (by kernel_rfl) ?_
                      refine EQ.code ?_
                      refine EW.region (id := 24) (ops := Cd14.r.r.r.r.r.r.r.l.r.l.l.r.l.l.r.r.r.r.l.r.ops) (by kernel_rfl) ?_
                      refine EL.quick 4 [1, 5, 6, 7, 11, 104, 106, 107] [(1, .slice (some ad7760) l6.length C8), (5, .int .i64 (IntKind.i64.wrap ((IntKind.i64.wrap (Int.tmod a5 10)) + 1))), (6, .pointer (some ⟨g4190, 0, none⟩)), (7, .slice (some ad7801) l7808.length C7196), (11, .int .i64 x7200), (104, .pointer (some ⟨g4190, 0, none⟩)), (106, .int .i32 (IntKind.i32.wrap y7762)), (107, .int .i64 x7200)] (by kernel_rfl) ?_
                      have hS : St B _ (Ass.box 99 g4190 [.slice A7198 x7197.length C7199, .slice A4193 t4189.length C4194] :: Ass.deep 87 75 kS75 A7198 C7199 x7197 :: Ass.own 3 (Kd.int .i64) A4193 C4194 t4189 :: Ass.own 75 kS75 (some ad7801) C7196 l7808 :: os) (Ro.sl (Kd.int .i64) (some ⟨g4186, 0, none⟩) 1 l4187 :: Ro.sl (Kd.int .i64) (some ⟨g4186, 0, none⟩) 1 l4187 :: Ro.sl (Kd.int .u8) (some ad7760) C8 l6 :: rs) := hS.re [3, 3, 3] [] rfl sub_self
                      obtain ⟨t7809, t7810, hc7813, H⟩ := b2_out H
                      refine EL.of (EO.callD 50 [.pointer (some ⟨g4190, 0, none⟩), .int .i32 (IntKind.i32.wrap y7762), .int .i64 x7200] _ 108 (by kernel_rfl) (by kernel_rfl) (by kernel_rfl) (future_Futures_Break.calls hc7813 hS) ?_)
                      rintro v w ⟨A7811, C7812, rfl, hS⟩
                      refine EL.done (by kernel_rfl) ?_
                      refine EQ.pop ?_
                      refine EQ.to ?_
                      refine EQ.keep [1, 5, 6, 7, 11] [(1, .slice (some ad7760) l6.length C8), (5, .int .i64 (IntKind.i64.wrap ((IntKind.i64.wrap (Int.tmod a5 10)) + 1))), (6, .pointer (some ⟨g4190, 0, none⟩)), (7, .slice (some ad7801) l7808.length C7196), (11, .int .i64 x7200)] (by kernel_rfl) ?_
                      exact fun a ha => ⟨t7809, l7808, A7811, C7812, (some ad7801), C7196, ha, (hS.re [3, 3, 3, 3] [] rfl (sub_cons 0 rfl (sub_cons 0 rfl (sub_cons 2 rfl (sub_tail (sub_tail (sub_tail (sub_self)))))))), H⟩
                    · rw [if_neg h7802] at H
                      obtain ⟨j7844, hj7844, H⟩ := lt_out H
                      refine EW.cut (x := Cd14.r.r.r.r.r.r.r.l.r.l.l.r.l.l.r.r.r.r.r.l) (y := Cd14.r.r.r.r.r.r.r.l.r.l.l.r.l.l.r.r.r.r.r.r) (fun a w => ∃ x7840 : List (List S75), ∃ x7843 : Bool, ∃ A7841 : Option Addr, ∃ C7842 : Nat, Sat 154 [(1, .slice (some ad7760) l6.length C8), (5, .int .i64 (IntKind.i64.wrap ((IntKind.i64.wrap (Int.tmod a5 10)) + 1))), (6, .pointer (some ⟨g4190, 0, none⟩)), (7, .slice (some ad7801) x7194.length C7196), (11, .int .i64 x7200), (118, .bool (x7843))] a ∧ St B w (Ass.box 99 g4190 [.slice A7841 x7840.length C7842, .slice A4193 t4189.length C4194] :: Ass.deep 87 75 kS75 A7841 C7842 x7840 :: Ass.own 3 (Kd.int .i64) A4193 C4194 t4189 :: Ass.own 75 kS75 (some ad7801) C7196 x7194 :: os) (Ro.sl (Kd.int .i64) (some ⟨g4186, 0, none⟩) 1 l4187 :: Ro.sl (Kd.int .i64) (some ⟨g4186, 0, none⟩) 1 l4187 :: Ro.sl (Kd.int .u8) (some ad7760) C8 l6 :: rs) ∧ j7844 x7840 x7843 = some x4163) (by kernel_rfl) ?_ (fun a w hI => ?_)
                      · refine EW.region (id := 25) (ops := Cd14.r.r.r.r.r.r.r.l.r.l.l.r.l.l.r.r.r.r.r.l.ops) (by kernel_rfl) ?_
                        refine EL.quick 3 [1, 5, 6, 7, 11, 12, 109, 111] [(1, .slice (some ad7760) l6.length C8), (5, .int .i64 (IntKind.i64.wrap ((IntKind.i64.wrap (Int.tmod a5 10)) + 1))), (6, .pointer (some ⟨g4190, 0, none⟩)), (7, .slice (some ad7801) x7194.length C7196), (11, .int .i64 x7200), (12, .int .i64 y7762), (109, .pointer (some ⟨g4190, 0, none⟩)), (111, .int .i32 (IntKind.i32.wrap y7762))] (by kernel_rfl) ?_
                        have hS : St B _ (Ass.box 99 g4190 [.slice A7198 x7197.length C7199, .slice A4193 t4189.length C4194] :: Ass.deep 87 75 kS75 A7198 C7199 x7197 :: Ass.own 3 (Kd.int .i64) A4193 C4194 t4189 :: Ass.own 75 kS75 (some ad7801) C7196 x7194 :: os) (Ro.sl (Kd.int .i64) (some ⟨g4186, 0, none⟩) 1 l4187 :: Ro.sl (Kd.int .i64) (some ⟨g4186, 0, none⟩) 1 l4187 :: Ro.sl (Kd.int .u8) (some ad7760) C8 l6 :: rs) := hS.re [3, 3, 3] [] rfl sub_self
                        obtain ⟨t7845, t7846, hc7849, H⟩ := b2_out H
                        refine EL.of (EO.callD 48 [.pointer (some ⟨g4190, 0, none⟩), .int .i32 (IntKind.i32.wrap y7762), .int .i32 5] _ 112 (by kernel_rfl) (by kernel_rfl) (by kernel_rfl) (future_Futures_Keep.calls hc7849 hS) ?_)
                        rintro v w ⟨A7847, C7848, rfl, hS⟩
                        refine EL.quick 1 [1, 5, 6, 7, 11, 12, 113] [(1, .slice (some ad7760) l6.length C8), (5, .int .i64 (IntKind.i64.wrap ((IntKind.i64.wrap (Int.tmod a5 10)) + 1))), (6, .pointer (some ⟨g4190, 0, none⟩)), (7, .slice (some ad7801) x7194.length C7196), (11, .int .i64 x7200), (12, .int .i64 y7762), (113, .bool (t7846))] (by kernel_rfl) ?_
                        by_cases h7850 : t7846 = true
                        · rw [if_pos h7850] at H
                          refine EL.keep [1, 5, 6, 7, 11, 12, 113] [(1, .slice (some ad7760) l6.length C8), (5, .int .i64 (IntKind.i64.wrap ((IntKind.i64.wrap (Int.tmod a5 10)) + 1))), (6, .pointer (some ⟨g4190, 0, none⟩)), (7, .slice (some ad7801) x7194.length C7196), (11, .int .i64 x7200), (12, .int .i64 y7762), (113, .bool (t7846))] (by kernel_rfl) ?_
                          refine EL.as' [(1, .slice (some ad7760) l6.length C8), (5, .int .i64 (IntKind.i64.wrap ((IntKind.i64.wrap (Int.tmod a5 10)) + 1))), (6, .pointer (some ⟨g4190, 0, none⟩)), (7, .slice (some ad7801) x7194.length C7196), (11, .int .i64 x7200), (12, .int .i64 y7762), (113, .bool (true))] (by simp only [h7850, Bool.not_true, Bool.not_false]) ?_
                          refine EL.quick 5 [1, 5, 6, 7, 11, 118] [(1, .slice (some ad7760) l6.length C8), (5, .int .i64 (IntKind.i64.wrap ((IntKind.i64.wrap (Int.tmod a5 10)) + 1))), (6, .pointer (some ⟨g4190, 0, none⟩)), (7, .slice (some ad7801) x7194.length C7196), (11, .int .i64 x7200), (118, .bool (true))] (by kernel_rfl) ?_
                          refine EL.done (by kernel_rfl) ?_
                          refine EQ.to ?_
                          refine EQ.keep [1, 5, 6, 7, 11, 118] [(1, .slice (some ad7760) l6.length C8), (5, .int .i64 (IntKind.i64.wrap ((IntKind.i64.wrap (Int.tmod a5 10)) + 1))), (6, .pointer (some ⟨g4190, 0, none⟩)), (7, .slice (some ad7801) x7194.length C7196), (11, .int .i64 x7200), (118, .bool (true))] (by kernel_rfl) ?_
                          exact fun a ha => ⟨t7845, true, A7847, C7848, ha, (hS.re [3, 3, 3, 3] [] rfl (sub_cons 0 rfl (sub_cons 0 rfl (sub_cons 2 rfl (sub_tail (sub_tail (sub_tail (sub_self)))))))), H⟩
                        · rw [if_neg h7850] at H
                          refine EL.keep [1, 5, 6, 7, 11, 12, 113] [(1, .slice (some ad7760) l6.length C8), (5, .int .i64 (IntKind.i64.wrap ((IntKind.i64.wrap (Int.tmod a5 10)) + 1))), (6, .pointer (some ⟨g4190, 0, none⟩)), (7, .slice (some ad7801) x7194.length C7196), (11, .int .i64 x7200), (12, .int .i64 y7762), (113, .bool (t7846))] (by kernel_rfl) ?_
                          refine EL.as' [(1, .slice (some ad7760) l6.length C8), (5, .int .i64 (IntKind.i64.wrap ((IntKind.i64.wrap (Int.tmod a5 10)) + 1))), (6, .pointer (some ⟨g4190, 0, none⟩)), (7, .slice (some ad7801) x7194.length C7196), (11, .int .i64 x7200), (12, .int .i64 y7762), (113, .bool (false))] (by simp only [(Bool.eq_false_iff.2 h7850), Bool.not_true, Bool.not_false]) ?_
                          refine EL.quick 3 [1, 5, 6, 7, 11, 113, 114, 115, 116] [(1, .slice (some ad7760) l6.length C8), (5, .int .i64 (IntKind.i64.wrap ((IntKind.i64.wrap (Int.tmod a5 10)) + 1))), (6, .pointer (some ⟨g4190, 0, none⟩)), (7, .slice (some ad7801) x7194.length C7196), (11, .int .i64 x7200), (113, .bool (false)), (114, .pointer (some ⟨g4190, 0, none⟩)), (115, .int .i64 y7762), (116, .int .i32 (IntKind.i32.wrap y7762))] (by kernel_rfl) ?_
                          obtain ⟨t7851, t7852, hc7855, H⟩ := b2_out H
                          refine EL.of (EO.callD 50 [.pointer (some ⟨g4190, 0, none⟩), .int .i32 (IntKind.i32.wrap y7762), .int .i64 5] _ 117 (by kernel_rfl) (by kernel_rfl) (by kernel_rfl) (future_Futures_Break.calls hc7855 hS) ?_)
                          rintro v w ⟨A7853, C7854, rfl, hS⟩
                          refine EL.quick 1 [1, 5, 6, 7, 11, 114, 115, 116, 117, 118] [(1, .slice (some ad7760) l6.length C8), (5, .int .i64 (IntKind.i64.wrap ((IntKind.i64.wrap (Int.tmod a5 10)) + 1))), (6, .pointer (some ⟨g4190, 0, none⟩)), (7, .slice (some ad7801) x7194.length C7196), (11, .int .i64 x7200), (114, .pointer (some ⟨g4190, 0, none⟩)), (115, .int .i64 y7762), (116, .int .i32 (IntKind.i32.wrap y7762)), (117, .bool (t7852)), (118, .bool (t7852))] (by kernel_rfl) ?_
                          refine EL.done (by kernel_rfl) ?_
                          refine EQ.to ?_
                          refine EQ.keep [1, 5, 6, 7, 11, 118] [(1, .slice (some ad7760) l6.length C8), (5, .int .i64 (IntKind.i64.wrap ((IntKind.i64.wrap (Int.tmod a5 10)) + 1))), (6, .pointer (some ⟨g4190, 0, none⟩)), (7, .slice (some ad7801) x7194.length C7196), (11, .int .i64 x7200), (118, .bool (t7852))] (by kernel_rfl) ?_
                          exact fun a ha => ⟨t7851, t7852, A7853, C7854, ha, (hS.re [3, 3, 3, 3] [] rfl (sub_cons 0 rfl (sub_cons 0 rfl (sub_cons 2 rfl (sub_tail (sub_tail (sub_tail (sub_self)))))))), H⟩
                      · obtain ⟨x7840, x7843, A7841, C7842, ha, hS, H⟩ := hI
                        rw [hj7844] at H
                        (try dsimp only at H)
                        refine EW.at ?_ a ha
                        clear ha a
                        refine EW.condP' (o := (.tmp 118)) (x := Cd14.r.r.r.r.r.r.r.l.r.l.l.r.l.l.r.r.r.r.r.r.l) (y := Cd14.r.r.r.r.r.r.r.l.r.l.l.r.l.l.r.r.r.r.r.r.r) (x7843) (by kernel_rfl) (by kernel_rfl) (fun h7856 => ?_) (fun h7856 => ?_)
                        · rw [if_pos h7856] at H
                          refine EW.seq (x := Cd14.r.r.r.r.r.r.r.l.r.l.l.r.l.l.r.r.r.r.r.r.l.l) (y := Cd14.r.r.r.r.r.r.r.l.r.l.l.r.l.l.r.r.r.r.r.r.l.r) (by kernel_rfl) ?_
                          refine EW.region (id := 26) (ops := Cd14.r.r.r.r.r.r.r.l.r.l.l.r.l.l.r.r.r.r.r.r.l.l.ops) (by kernel_rfl) ?_
                          refine EL.quick 1 [4] [(4, .bool (false))] (by kernel_rfl) ?_
                          refine EL.done (by kernel_rfl) ?_
                          refine EQ.code ?_
                          refine EW.ret (by kernel_rfl) ?_
                          refine EQ.ret ?_
                          refine EQ.ret ?_
                          refine EQ.ret ?_
                          refine EQ.ret ?_
                          refine EQ.ret ?_
                          obtain rfl := Option.some.inj H
                          exact EQ.leave (.bool (false)) (by kernel_rfl) ⟨_, rfl, rfl, (hS.re [] [0, 0, 0, 0] rfl (sub_tail (sub_tail (sub_self))))⟩
                        · rw [if_neg h7856] at H
                          refine EW.skip (by kernel_rfl) ?_
                          refine EQ.pop ?_
                          refine EQ.to ?_
                          refine EQ.keep [1, 5, 6, 7, 11] [(1, .slice (some ad7760) l6.length C8), (5, .int .i64 (IntKind.i64.wrap ((IntKind.i64.wrap (Int.tmod a5 10)) + 1))), (6, .pointer (some ⟨g4190, 0, none⟩)), (7, .slice (some ad7801) x7194.length C7196), (11, .int .i64 x7200)] (by kernel_rfl) ?_
                          exact fun a ha => ⟨x7840, x7194, A7841, C7842, (some ad7801), C7196, ha, (hS.re [3, 3, 3, 3] [] rfl (sub_cons 0 rfl (sub_cons 0 rfl (sub_cons 2 rfl (sub_tail (sub_tail (sub_tail (sub_self)))))))), H⟩
              · obtain ⟨x7748, x7751, A7749, C7750, A7752, C7753, ha, hS, H⟩ := hI
                rw [hj7754] at H
                (try dsimp only at H)
                refine EW.at ?_ a ha
                clear ha a
                refine EW.region (id := 17) (ops := Cd14.r.r.r.r.r.r.r.l.r.l.l.r.r.ops) (by kernel_rfl) ?_
                refine EL.quick 3 [1, 5, 6, 7, 11] [(1, .slice A7 l6.length C8), (5, .int .i64 (IntKind.i64.wrap ((IntKind.i64.wrap (Int.tmod a5 10)) + 1))), (6, .pointer (some ⟨g4190, 0, none⟩)), (7, .slice A7752 x7751.length C7753), (11, .int .i64 (IntKind.i64.wrap (x7200 + 1)))] (by kernel_rfl) ?_
                refine EL.done (by kernel_rfl) ?_
                refine EQ.to ?_
                refine EQ.keep [1, 5, 6, 7, 11] [(1, .slice A7 l6.length C8), (5, .int .i64 (IntKind.i64.wrap ((IntKind.i64.wrap (Int.tmod a5 10)) + 1))), (6, .pointer (some ⟨g4190, 0, none⟩)), (7, .slice A7752 x7751.length C7753), (11, .int .i64 (IntKind.i64.wrap (x7200 + 1)))] (by kernel_rfl) ?_
                exact fun a ha => ⟨n, Nat.lt_succ_self n, x7751, x7748, IntKind.i64.wrap (x7200 + 1), A7752, C7753, A7749, C7750, ha, (hS.re [2, 2, 2, 3] [] rfl (sub_cons 0 rfl (sub_cons 0 rfl (sub_cons 2 rfl (sub_tail (sub_tail (sub_tail (sub_self)))))))), H⟩
            · rw [if_neg h7537] at H
              refine EW.exit (id := 2) (by kernel_rfl) ?_
              refine EQ.exitCode ?_
              refine EQ.exitTo ?_
              refine EQ.exitHere ?_
              refine EQ.to ?_
              refine EQ.keep [5, 6, 7] [(5, .int .i64 (IntKind.i64.wrap ((IntKind.i64.wrap (Int.tmod a5 10)) + 1))), (6, .pointer (some ⟨g4190, 0, none⟩)), (7, .slice A7195 x7194.length C7196)] (by kernel_rfl) ?_
              exact fun a ha => ⟨x7194, x7197, A7195, C7196, A7198, C7199, ha, (hS.re [3, 3, 3, 3] [] rfl (sub_cons 0 rfl (sub_cons 0 rfl (sub_cons 2 rfl (sub_tail (sub_tail (sub_tail (sub_self)))))))), H⟩
        · obtain ⟨x6858, x6861, A6859, C6860, A6862, C6863, ha, hS, H⟩ := hI
          rw [hj6864] at H
          (try dsimp only at H)
          refine EW.at ?_ a ha
          clear ha a
          obtain ⟨j8155, hj8155, H⟩ := lt_out H
          refine EW.cut (x := Cd14.r.r.r.r.r.r.r.r.l) (y := Cd14.r.r.r.r.r.r.r.r.r) (fun a w => Sat 154 [(5, .int .i64 (IntKind.i64.wrap ((IntKind.i64.wrap (Int.tmod a5 10)) + 1))), (6, .pointer (some ⟨g4190, 0, none⟩))] a ∧ St B w (Ass.own 75 kS75 A6859 C6860 x6858 :: Ass.box 99 g4190 [.slice A6862 x6861.length C6863, .slice A4193 t4189.length C4194] :: Ass.deep 87 75 kS75 A6862 C6863 x6861 :: Ass.own 3 (Kd.int .i64) A4193 C4194 t4189 :: os) (Ro.sl (Kd.int .i64) (some ⟨g4186, 0, none⟩) 1 l4187 :: Ro.sl (Kd.int .i64) (some ⟨g4186, 0, none⟩) 1 l4187 :: Ro.sl (Kd.int .u8) A7 C8 l6 :: rs) ∧ j8155 = some x4163) (by kernel_rfl) ?_ (fun a w hI => ?_)
          · refine EW.seq (x := Cd14.r.r.r.r.r.r.r.r.l.l) (y := Cd14.r.r.r.r.r.r.r.r.l.r) (by kernel_rfl) ?_
            refine EW.region (id := 27) (ops := Cd14.r.r.r.r.r.r.r.r.l.l.ops) (by kernel_rfl) ?_
            refine EL.quick 1 [5, 6, 7, 13] [(5, .int .i64 (IntKind.i64.wrap ((IntKind.i64.wrap (Int.tmod a5 10)) + 1))), (6, .pointer (some ⟨g4190, 0, none⟩)), (7, .slice A6859 x6858.length C6860), (13, .int .i64 0)] (by kernel_rfl) ?_
            refine EL.done (by kernel_rfl) ?_
            refine EQ.code ?_
            refine EW.block (x := Cd14.r.r.r.r.r.r.r.r.l.r.l) (id := 4) (by kernel_rfl) ?_
            refine EW.loop (x := Cd14.r.r.r.r.r.r.r.r.l.r.l.l) (fun n a w => ∃ x8202 : Int, Sat 154 [(5, .int .i64 (IntKind.i64.wrap ((IntKind.i64.wrap (Int.tmod a5 10)) + 1))), (6, .pointer (some ⟨g4190, 0, none⟩)), (7, .slice A6859 x6858.length C6860), (13, .int .i64 x8202)] a ∧ St B w (Ass.own 75 kS75 A6859 C6860 x6858 :: Ass.box 99 g4190 [.slice A6862 x6861.length C6863, .slice A4193 t4189.length C4194] :: Ass.deep 87 75 kS75 A6862 C6863 x6861 :: Ass.own 3 (Kd.int .i64) A4193 C4194 t4189 :: os) (Ro.sl (Kd.int .i64) (some ⟨g4186, 0, none⟩) 1 l4187 :: Ro.sl (Kd.int .i64) (some ⟨g4186, 0, none⟩) 1 l4187 :: Ro.sl (Kd.int .u8) A7 C8 l6 :: rs) ∧ confidantlaw13_FutureApart.l2 K a5 x6861 t4189 x6858 j8155 n x8202 = some x4163) K (by kernel_rfl) ?_ (fun n a w hI => ?_)
            · refine EQ.keep [5, 6, 7, 13] [(5, .int .i64 (IntKind.i64.wrap ((IntKind.i64.wrap (Int.tmod a5 10)) + 1))), (6, .pointer (some ⟨g4190, 0, none⟩)), (7, .slice A6859 x6858.length C6860), (13, .int .i64 0)] (by kernel_rfl) ?_
              exact fun a ha => ⟨0, ha, (hS.re [3, 3, 3, 3] [] rfl (sub_cons 0 rfl (sub_cons 0 rfl (sub_cons 2 rfl (sub_tail (sub_tail (sub_tail (sub_self)))))))), H⟩
            · obtain ⟨x8202, ha, hS, H⟩ := hI
              obtain _ | n := n
              · simp [confidantlaw13_FutureApart.l2] at H
              rw [confidantlaw13_FutureApart.l2.eq_2] at H
              refine EW.at ?_ a ha
              clear ha a
              refine EW.seq (x := Cd14.r.r.r.r.r.r.r.r.l.r.l.l.l) (y := Cd14.r.r.r.r.r.r.r.r.l.r.l.l.r) (by kernel_rfl) ?_
              refine EW.seq (x := Cd14.r.r.r.r.r.r.r.r.l.r.l.l.l.l) (y := Cd14.r.r.r.r.r.r.r.r.l.r.l.l.l.r) (by kernel_rfl) ?_
              refine EW.region (id := 28) (ops := Cd14.r.r.r.r.r.r.r.r.l.r.l.l.l.l.ops) (by kernel_rfl) ?_
              refine EL.quick 3 [5, 6, 7, 13, 121] [(5, .int .i64 (IntKind.i64.wrap ((IntKind.i64.wrap (Int.tmod a5 10)) + 1))), (6, .pointer (some ⟨g4190, 0, none⟩)), (7, .slice A6859 x6858.length C6860), (13, .int .i64 x8202), (121, .bool (decide (x8202 < (IntKind.i64.wrap ((IntKind.i64.wrap (Int.tmod a5 10)) + 1)))))] (by kernel_rfl) ?_
              refine EL.done (by kernel_rfl) ?_
              refine EQ.code ?_
              refine EW.condP (o := (.tmp 121)) (x := Cd14.r.r.r.r.r.r.r.r.l.r.l.l.l.r.l) (y := Cd14.r.r.r.r.r.r.r.r.l.r.l.l.l.r.r) (x8202 < (IntKind.i64.wrap ((IntKind.i64.wrap (Int.tmod a5 10)) + 1))) (by kernel_rfl) (by kernel_rfl) (fun h8256 => ?_) (fun h8256 => ?_)
              · rw [if_pos h8256] at H
                refine EW.skip (by kernel_rfl) ?_
                refine EQ.code ?_
                refine EW.seq (x := Cd14.r.r.r.r.r.r.r.r.l.r.l.l.r.l) (y := Cd14.r.r.r.r.r.r.r.r.l.r.l.l.r.r) (by kernel_rfl) ?_
                refine EW.block (x := Cd14.r.r.r.r.r.r.r.r.l.r.l.l.r.l.l) (id := 5) (by kernel_rfl) ?_
                refine EW.seq (x := Cd14.r.r.r.r.r.r.r.r.l.r.l.l.r.l.l.l) (y := Cd14.r.r.r.r.r.r.r.r.l.r.l.l.r.l.l.r) (by kernel_rfl) ?_
                refine EW.region (id := 30) (ops := Cd14.r.r.r.r.r.r.r.r.l.r.l.l.r.l.l.l.ops) (by kernel_rfl) ?_
                refine EL.quick 3 [5, 6, 7, 13, 125, 127] [(5, .int .i64 (IntKind.i64.wrap ((IntKind.i64.wrap (Int.tmod a5 10)) + 1))), (6, .pointer (some ⟨g4190, 0, none⟩)), (7, .slice A6859 x6858.length C6860), (13, .int .i64 x8202), (125, .pointer (some ⟨g4190, 0, none⟩)), (127, .int .i32 (IntKind.i32.wrap x8202))] (by kernel_rfl) ?_
                have hS : St B _ (Ass.box 99 g4190 [.slice A6862 x6861.length C6863, .slice A4193 t4189.length C4194] :: Ass.deep 87 75 kS75 A6862 C6863 x6861 :: Ass.own 3 (Kd.int .i64) A4193 C4194 t4189 :: Ass.own 75 kS75 A6859 C6860 x6858 :: os) (Ro.sl (Kd.int .i64) (some ⟨g4186, 0, none⟩) 1 l4187 :: Ro.sl (Kd.int .i64) (some ⟨g4186, 0, none⟩) 1 l4187 :: Ro.sl (Kd.int .u8) A7 C8 l6 :: rs) := hS.re [3, 3, 3] [] rfl sub_self
                obtain ⟨t8285, t8286, hc8287, H⟩ := b2_out H
                refine EL.of (EO.callD 52 [.pointer (some ⟨g4190, 0, none⟩), .int .i32 (IntKind.i32.wrap x8202)] _ 128 (by kernel_rfl) (by kernel_rfl) (by kernel_rfl) (future_Futures_Get.calls hc8287 hS) ?_)
                rintro v w ⟨rfl, hS⟩
                refine EL.quick 3 [5, 6, 7, 13, 129, 130] [(5, .int .i64 (IntKind.i64.wrap ((IntKind.i64.wrap (Int.tmod a5 10)) + 1))), (6, .pointer (some ⟨g4190, 0, none⟩)), (7, .slice A6859 x6858.length C6860), (13, .int .i64 x8202), (129, .agg #[.int .i64 t8285.f0, .int .i64 t8285.f1, .int .i32 t8285.f2, .int .i64 t8285.f3]), (130, .bool (t8286))] (by kernel_rfl) ?_
                refine EL.of (EO.alloc hS 75 (.agg #[.int .i64 0, .int .i64 0, .int .i32 0, .int .i64 0]) [.int .i64 0, .int .i64 0, .int .i32 0, .int .i64 0] 14 (by kernel_rfl) (by kernel_rfl) (by kernel_rfl) (by kernel_rfl) (by first | rfl | kernel_rfl) ?_)
                intro g8288 w hS
                refine EL.of (EO.storeBox (os' := Ass.box 75 g8288 [.int .i64 t8285.f0, .int .i64 t8285.f1, .int .i32 t8285.f2, .int .i64 t8285.f3] :: Ass.box 99 g4190 [.slice A6862 x6861.length C6863, .slice A4193 t4189.length C4194] :: Ass.deep 87 75 kS75 A6862 C6863 x6861 :: Ass.own 3 (Kd.int .i64) A4193 C4194 t4189 :: Ass.own 75 kS75 A6859 C6860 x6858 :: os) hS 0 rfl 75 0 (.agg #[.int .i64 t8285.f0, .int .i64 t8285.f1, .int .i32 t8285.f2, .int .i64 t8285.f3]) [.int .i64 t8285.f0, .int .i64 t8285.f1, .int .i32 t8285.f2, .int .i64 t8285.f3] (by kernel_rfl) (by kernel_rfl) (by kernel_rfl) (by kernel_rfl) (by kernel_rfl) (by kernel_rfl) rfl rfl ?_)
                intro w hS
                refine EL.quick 1 [5, 6, 7, 13, 14, 15] [(5, .int .i64 (IntKind.i64.wrap ((IntKind.i64.wrap (Int.tmod a5 10)) + 1))), (6, .pointer (some ⟨g4190, 0, none⟩)), (7, .slice A6859 x6858.length C6860), (13, .int .i64 x8202), (14, .pointer (some ⟨g8288, 0, none⟩)), (15, .bool (t8286))] (by kernel_rfl) ?_
                refine EL.done (by kernel_rfl) ?_
                refine EQ.code ?_
                obtain ⟨j8299, hj8299, H⟩ := lt_out H
                refine EW.cut (x := Cd14.r.r.r.r.r.r.r.r.l.r.l.l.r.l.l.r.l) (y := Cd14.r.r.r.r.r.r.r.r.l.r.l.l.r.l.l.r.r) (fun a w => ∃ x8298 : Bool, Sat 154 [(5, .int .i64 (IntKind.i64.wrap ((IntKind.i64.wrap (Int.tmod a5 10)) + 1))), (6, .pointer (some ⟨g4190, 0, none⟩)), (7, .slice A6859 x6858.length C6860), (13, .int .i64 x8202), (140, .bool (x8298))] a ∧ St B w (Ass.box 75 g8288 [.int .i64 t8285.f0, .int .i64 t8285.f1, .int .i32 t8285.f2, .int .i64 t8285.f3] :: Ass.box 99 g4190 [.slice A6862 x6861.length C6863, .slice A4193 t4189.length C4194] :: Ass.deep 87 75 kS75 A6862 C6863 x6861 :: Ass.own 3 (Kd.int .i64) A4193 C4194 t4189 :: Ass.own 75 kS75 A6859 C6860 x6858 :: os) (Ro.sl (Kd.int .i64) (some ⟨g4186, 0, none⟩) 1 l4187 :: Ro.sl (Kd.int .i64) (some ⟨g4186, 0, none⟩) 1 l4187 :: Ro.sl (Kd.int .u8) A7 C8 l6 :: rs) ∧ j8299 x8298 = some x4163) (by kernel_rfl) ?_ (fun a w hI => ?_)
                · by_cases h8300 : t8286 = true
                  · rw [if_pos h8300] at H
                    obtain ⟨h8301, H⟩ := ite_in H
                    obtain ⟨h8302, H⟩ := ite_in H
                    obtain ⟨ad8303, rfl⟩ := St.rd_some hS (Rd.own 4 75 rfl) h8301 h8302
                    have hS := hS.drew
                    refine EW.draw (B := B) (id := 31) (ops := Cd14.r.r.r.r.r.r.r.r.l.r.l.l.r.l.l.r.l.ops) [Ass.box 75 g8288 [.int .i64 t8285.f0, .int .i64 t8285.f1, .int .i32 t8285.f2, .int .i64 t8285.f3], Ass.box 99 g4190 [.slice A6862 x6861.length C6863, .slice A4193 t4189.length C4194], Ass.deep 87 75 kS75 A6862 C6863 x6861, Ass.own 3 (Kd.int .i64) A4193 C4194 t4189, Ass.own 75 kS75 (some ad8303) C6860 x6858] [Ro.sl (Kd.int .i64) (some ⟨g4186, 0, none⟩) 1 l4187, Ro.sl (Kd.int .i64) (some ⟨g4186, 0, none⟩) 1 l4187, Ro.sl (Kd.int .u8) A7 C8 l6] (by kernel_rfl) (by kernel_rfl) ?_
                    have hN : Region.noSelect Cd14.r.r.r.r.r.r.r.r.l.r.l.l.r.l.l.r.l.ops = true := (by kernel_rfl)
                    have hF : freeAll Cd14.r.r.r.r.r.r.r.r.l.r.l.l.r.l.l.r.l.ops = true := (by kernel_rfl)
                    have hC : Core B [Ass.box 75 g8288 [.int .i64 t8285.f0, .int .i64 t8285.f1, .int .i32 t8285.f2, .int .i64 t8285.f3], Ass.box 99 g4190 [.slice A6862 x6861.length C6863, .slice A4193 t4189.length C4194], Ass.deep 87 75 kS75 A6862 C6863 x6861, Ass.own 3 (Kd.int .i64) A4193 C4194 t4189, Ass.own 75 kS75 (some ad8303) C6860 x6858] [Ro.sl (Kd.int .i64) (some ⟨g4186, 0, none⟩) 1 l4187, Ro.sl (Kd.int .i64) (some ⟨g4186, 0, none⟩) 1 l4187, Ro.sl (Kd.int .u8) A7 C8 l6] _ := ⟨_, _, hS⟩
                    refine ED.quick hN hF hC [0, 1, 2] [5, 6, 7, 13, 14, 133] 7 [(5, .int .i64 (IntKind.i64.wrap ((IntKind.i64.wrap (Int.tmod a5 10)) + 1))), (6, .pointer (some ⟨g4190, 0, none⟩)), (7, .slice (some ad8303) x6858.length C6860), (13, .int .i64 x8202), (14, .pointer (some ⟨g8288, 0, none⟩)), (133, .bool (!(t8286)))] #[true, true, true, false, false, false, false, false, false, false] (by kernel_rfl) (by kernel_rfl) ?_
                    refine ED.keep [5, 6, 7, 13, 14, 133] [(5, .int .i64 (IntKind.i64.wrap ((IntKind.i64.wrap (Int.tmod a5 10)) + 1))), (6, .pointer (some ⟨g4190, 0, none⟩)), (7, .slice (some ad8303) x6858.length C6860), (13, .int .i64 x8202), (14, .pointer (some ⟨g8288, 0, none⟩)), (133, .bool (!(t8286)))] (by kernel_rfl) ?_
                    refine ED.as' [(5, .int .i64 (IntKind.i64.wrap ((IntKind.i64.wrap (Int.tmod a5 10)) + 1))), (6, .pointer (some ⟨g4190, 0, none⟩)), (7, .slice (some ad8303) x6858.length C6860), (13, .int .i64 x8202), (14, .pointer (some ⟨g8288, 0, none⟩)), (133, .bool (false))] (by simp only [h8300, Bool.not_true, Bool.not_false]) ?_
                    refine ED.quick hN hF hC [4, 5] [5, 6, 7, 13, 14, 133, 135, 136] 5 [(5, .int .i64 (IntKind.i64.wrap ((IntKind.i64.wrap (Int.tmod a5 10)) + 1))), (6, .pointer (some ⟨g4190, 0, none⟩)), (7, .slice (some ad8303) x6858.length C6860), (13, .int .i64 x8202), (14, .pointer (some ⟨g8288, 0, none⟩)), (133, .bool (false)), (135, .slice (some ad8303) x6858.length C6860), (136, .int .i64 x8202)] #[true, true, true, false, true, true, false, false, false, false] (by kernel_rfl) (by kernel_rfl) ?_
                    refine ED.Y hN hF hC 3 4 #[true, true, true, true, true, true, false, false, false, false] (by kernel_rfl) (by kernel_rfl) rfl (fun _ _ _ hS => YO.loadBox hS 0 rfl 75 0 4 (.agg #[.int .i64 t8285.f0, .int .i64 t8285.f1, .int .i32 t8285.f2, .int .i64 t8285.f3]) 134 (by kernel_rfl) (by kernel_rfl) (by kernel_rfl) (by kernel_rfl)) ?_
                    refine ED.Y hN hF hC 6 3 #[true, true, true, true, true, true, true, false, false, false] (by kernel_rfl) (by kernel_rfl) rfl (fun _ _ _ hS => YO.idx 87 4 ad8303 x6858.length C6860 .i64 x8202 137 (by kernel_rfl) (by kernel_rfl) (by kernel_rfl) (by kernel_rfl) h8301 h8302) ?_
                    refine ED.Y hN hF hC 7 2 #[true, true, true, true, true, true, true, true, false, false] (by kernel_rfl) (by kernel_rfl) rfl (fun _ _ _ hS => YO.loadEl hS kS75 ad8303 C6860 x6858 (Rd.own 4 75 rfl) zS75 encS75 encS75_of x8202 h8301 h8302 75 4 0 4 rfl (.agg #[.int .i64 ((x6858.getD x8202.toNat zS75).f0), .int .i64 ((x6858.getD x8202.toNat zS75).f1), .int .i32 ((x6858.getD x8202.toNat zS75).f2), .int .i64 ((x6858.getD x8202.toNat zS75).f3)]) 138 (by kernel_rfl) (by kernel_rfl) (by kernel_rfl) (by kernel_rfl)) ?_
                    refine ED.Y hN hF hC 8 1 #[true, true, true, true, true, true, true, true, true, false] (by kernel_rfl) (by kernel_rfl) rfl (fun _ _ _ hS => YO.eqAg .neq 75 (.tmp 134) (.tmp 138) #[.int .i64 t8285.f0, .int .i64 t8285.f1, .int .i32 t8285.f2, .int .i64 t8285.f3] #[.int .i64 ((x6858.getD x8202.toNat zS75).f0), .int .i64 ((x6858.getD x8202.toNat zS75).f1), .int .i32 ((x6858.getD x8202.toNat zS75).f2), .int .i64 ((x6858.getD x8202.toNat zS75).f3)] ((t8285.f0 == ((x6858.getD x8202.toNat zS75).f0)) && ((t8285.f1 == ((x6858.getD x8202.toNat zS75).f1)) && ((t8285.f2 == ((x6858.getD x8202.toNat zS75).f2)) && ((t8285.f3 == ((x6858.getD x8202.toNat zS75).f3)) && true)))) (!(((t8285.f0 == ((x6858.getD x8202.toNat zS75).f0)) && ((t8285.f1 == ((x6858.getD x8202.toNat zS75).f1)) && ((t8285.f2 == ((x6858.getD x8202.toNat zS75).f2)) && ((t8285.f3 == ((x6858.getD x8202.toNat zS75).f3)) && true)))))) 139 (by kernel_rfl) (by kernel_rfl) (by kernel_rfl) (by kernel_rfl) (by kernel_rfl) (.inr ⟨rfl, rfl⟩)) ?_
                    refine ED.quick hN hF hC [9] [5, 6, 7, 13, 134, 135, 136, 137, 138, 139, 140] 0 [(5, .int .i64 (IntKind.i64.wrap ((IntKind.i64.wrap (Int.tmod a5 10)) + 1))), (6, .pointer (some ⟨g4190, 0, none⟩)), (7, .slice (some ad8303) x6858.length C6860), (13, .int .i64 x8202), (134, .agg #[.int .i64 t8285.f0, .int .i64 t8285.f1, .int .i32 t8285.f2, .int .i64 t8285.f3]), (135, .slice (some ad8303) x6858.length C6860), (136, .int .i64 x8202), (137, .pointer (some ((ad8303.add (x8202.toNat * 4)).add 0))), (138, .agg #[.int .i64 ((x6858.getD x8202.toNat zS75).f0), .int .i64 ((x6858.getD x8202.toNat zS75).f1), .int .i32 ((x6858.getD x8202.toNat zS75).f2), .int .i64 ((x6858.getD x8202.toNat zS75).f3)]), (139, .bool (!(((t8285.f0 == ((x6858.getD x8202.toNat zS75).f0)) && ((t8285.f1 == ((x6858.getD x8202.toNat zS75).f1)) && ((t8285.f2 == ((x6858.getD x8202.toNat zS75).f2)) && ((t8285.f3 == ((x6858.getD x8202.toNat zS75).f3)) && true))))))), (140, .bool (!(((t8285.f0 == ((x6858.getD x8202.toNat zS75).f0)) && ((t8285.f1 == ((x6858.getD x8202.toNat zS75).f1)) && ((t8285.f2 == ((x6858.getD x8202.toNat zS75).f2)) && ((t8285.f3 == ((x6858.getD x8202.toNat zS75).f3)) && true)))))))] #[true, true, true, true, true, true, true, true, true, true] (by kernel_rfl) (by kernel_rfl) ?_
                    refine ED.done (by kernel_rfl) ?_
                    refine EQ.to ?_
                    refine EQ.keep [5, 6, 7, 13, 140] [(5, .int .i64 (IntKind.i64.wrap ((IntKind.i64.wrap (Int.tmod a5 10)) + 1))), (6, .pointer (some ⟨g4190, 0, none⟩)), (7, .slice (some ad8303) x6858.length C6860), (13, .int .i64 x8202), (140, .bool (!(((t8285.f0 == ((x6858.getD x8202.toNat zS75).f0)) && ((t8285.f1 == ((x6858.getD x8202.toNat zS75).f1)) && ((t8285.f2 == ((x6858.getD x8202.toNat zS75).f2)) && ((t8285.f3 == ((x6858.getD x8202.toNat zS75).f3)) && true)))))))] (by kernel_rfl) ?_
                    exact fun a ha => ⟨!(((t8285.f0 == ((x6858.getD x8202.toNat zS75).f0)) && ((t8285.f1 == ((x6858.getD x8202.toNat zS75).f1)) && ((t8285.f2 == ((x6858.getD x8202.toNat zS75).f2)) && ((t8285.f3 == ((x6858.getD x8202.toNat zS75).f3)) && true))))), ha, (hS.re [4, 4, 4, 4, 4] [] rfl (sub_cons 0 rfl (sub_cons 0 rfl (sub_cons 2 rfl (sub_tail (sub_tail (sub_tail (sub_self)))))))), H⟩
                  · rw [if_neg h8300] at H
                    have hS := hS.drew
                    refine EW.draw (B := B) (id := 31) (ops := Cd14.r.r.r.r.r.r.r.r.l.r.l.l.r.l.l.r.l.ops) [Ass.box 75 g8288 [.int .i64 t8285.f0, .int .i64 t8285.f1, .int .i32 t8285.f2, .int .i64 t8285.f3], Ass.box 99 g4190 [.slice A6862 x6861.length C6863, .slice A4193 t4189.length C4194], Ass.deep 87 75 kS75 A6862 C6863 x6861, Ass.own 3 (Kd.int .i64) A4193 C4194 t4189, Ass.own 75 kS75 A6859 C6860 x6858] [Ro.sl (Kd.int .i64) (some ⟨g4186, 0, none⟩) 1 l4187, Ro.sl (Kd.int .i64) (some ⟨g4186, 0, none⟩) 1 l4187, Ro.sl (Kd.int .u8) A7 C8 l6] (by kernel_rfl) (by kernel_rfl) ?_
                    have hN : Region.noSelect Cd14.r.r.r.r.r.r.r.r.l.r.l.l.r.l.l.r.l.ops = true := (by kernel_rfl)
                    have hF : freeAll Cd14.r.r.r.r.r.r.r.r.l.r.l.l.r.l.l.r.l.ops = true := (by kernel_rfl)
                    have hC : Core B [Ass.box 75 g8288 [.int .i64 t8285.f0, .int .i64 t8285.f1, .int .i32 t8285.f2, .int .i64 t8285.f3], Ass.box 99 g4190 [.slice A6862 x6861.length C6863, .slice A4193 t4189.length C4194], Ass.deep 87 75 kS75 A6862 C6863 x6861, Ass.own 3 (Kd.int .i64) A4193 C4194 t4189, Ass.own 75 kS75 A6859 C6860 x6858] [Ro.sl (Kd.int .i64) (some ⟨g4186, 0, none⟩) 1 l4187, Ro.sl (Kd.int .i64) (some ⟨g4186, 0, none⟩) 1 l4187, Ro.sl (Kd.int .u8) A7 C8 l6] _ := ⟨_, _, hS⟩
                    refine ED.quick hN hF hC [0, 1, 2] [5, 6, 7, 13, 14, 133] 7 [(5, .int .i64 (IntKind.i64.wrap ((IntKind.i64.wrap (Int.tmod a5 10)) + 1))), (6, .pointer (some ⟨g4190, 0, none⟩)), (7, .slice A6859 x6858.length C6860), (13, .int .i64 x8202), (14, .pointer (some ⟨g8288, 0, none⟩)), (133, .bool (!(t8286)))] #[true, true, true, false, false, false, false, false, false, false] (by kernel_rfl) (by kernel_rfl) ?_
                    refine ED.keep [5, 6, 7, 13, 14, 133] [(5, .int .i64 (IntKind.i64.wrap ((IntKind.i64.wrap (Int.tmod a5 10)) + 1))), (6, .pointer (some ⟨g4190, 0, none⟩)), (7, .slice A6859 x6858.length C6860), (13, .int .i64 x8202), (14, .pointer (some ⟨g8288, 0, none⟩)), (133, .bool (!(t8286)))] (by kernel_rfl) ?_
                    refine ED.as' [(5, .int .i64 (IntKind.i64.wrap ((IntKind.i64.wrap (Int.tmod a5 10)) + 1))), (6, .pointer (some ⟨g4190, 0, none⟩)), (7, .slice A6859 x6858.length C6860), (13, .int .i64 x8202), (14, .pointer (some ⟨g8288, 0, none⟩)), (133, .bool (true))] (by simp only [(Bool.eq_false_iff.2 h8300), Bool.not_true, Bool.not_false]) ?_
                    refine ED.quick hN hF hC [3, 4, 5, 6, 7, 8, 9] [5, 6, 7, 13, 134, 135, 136, 137, 138, 139, 140] 0 [(5, .int .i64 (IntKind.i64.wrap ((IntKind.i64.wrap (Int.tmod a5 10)) + 1))), (6, .pointer (some ⟨g4190, 0, none⟩)), (7, .slice A6859 x6858.length C6860), (13, .int .i64 x8202), (134, undef), (135, undef), (136, undef), (137, undef), (138, undef), (139, undef), (140, .bool (true))] #[true, true, true, true, true, true, true, true, true, true] (by kernel_rfl) (by kernel_rfl) ?_
                    refine ED.done (by kernel_rfl) ?_
                    refine EQ.to ?_
                    refine EQ.keep [5, 6, 7, 13, 140] [(5, .int .i64 (IntKind.i64.wrap ((IntKind.i64.wrap (Int.tmod a5 10)) + 1))), (6, .pointer (some ⟨g4190, 0, none⟩)), (7, .slice A6859 x6858.length C6860), (13, .int .i64 x8202), (140, .bool (true))] (by kernel_rfl) ?_
                    exact fun a ha => ⟨true, ha, (hS.re [4, 4, 4, 4, 4] [] rfl (sub_cons 0 rfl (sub_cons 0 rfl (sub_cons 2 rfl (sub_tail (sub_tail (sub_tail (sub_self)))))))), H⟩
                · obtain ⟨x8298, ha, hS, H⟩ := hI
                  rw [hj8299] at H
                  (try dsimp only at H)
                  refine EW.at ?_ a ha
                  clear ha a
                  refine EW.condP' (o := (.tmp 140)) (x := Cd14.r.r.r.r.r.r.r.r.l.r.l.l.r.l.l.r.r.l) (y := Cd14.r.r.r.r.r.r.r.r.l.r.l.l.r.l.l.r.r.r) (x8298) (by kernel_rfl) (by kernel_rfl) (fun h8304 => ?_) (fun h8304 => ?_)
                  · rw [if_pos h8304] at H
                    refine EW.seq (x := Cd14.r.r.r.r.r.r.r.r.l.r.l.l.r.l.l.r.r.l.l) (y := Cd14.r.r.r.r.r.r.r.r.l.r.l.l.r.l.l.r.r.l.r) (by kernel_rfl) ?_
                    refine EW.region (id := 32) (ops := Cd14.r.r.r.r.r.r.r.r.l.r.l.l.r.l.l.r.r.l.l.ops) (by kernel_rfl) ?_
                    refine EL.quick 1 [4] [(4, .bool (false))] (by kernel_rfl) ?_
                    refine EL.done (by kernel_rfl) ?_
                    refine EQ.code ?_
                    refine EW.ret (by kernel_rfl) ?_
                    refine EQ.ret ?_
                    refine EQ.ret ?_
                    refine EQ.ret ?_
                    refine EQ.ret ?_
                    refine EQ.ret ?_
                    obtain rfl := Option.some.inj H
                    exact EQ.leave (.bool (false)) (by kernel_rfl) ⟨_, rfl, rfl, (hS.re [] [0, 0, 0, 0, 0] rfl (sub_tail (sub_tail (sub_self))))⟩
                  · rw [if_neg h8304] at H
                    refine EW.skip (by kernel_rfl) ?_
                    refine EQ.pop ?_
                    refine EQ.code ?_
                    refine EW.region (id := 29) (ops := Cd14.r.r.r.r.r.r.r.r.l.r.l.l.r.r.ops) (by kernel_rfl) ?_
                    refine EL.quick 3 [5, 6, 7, 13] [(5, .int .i64 (IntKind.i64.wrap ((IntKind.i64.wrap (Int.tmod a5 10)) + 1))), (6, .pointer (some ⟨g4190, 0, none⟩)), (7, .slice A6859 x6858.length C6860), (13, .int .i64 (IntKind.i64.wrap (x8202 + 1)))] (by kernel_rfl) ?_
                    refine EL.done (by kernel_rfl) ?_
                    refine EQ.to ?_
                    refine EQ.keep [5, 6, 7, 13] [(5, .int .i64 (IntKind.i64.wrap ((IntKind.i64.wrap (Int.tmod a5 10)) + 1))), (6, .pointer (some ⟨g4190, 0, none⟩)), (7, .slice A6859 x6858.length C6860), (13, .int .i64 (IntKind.i64.wrap (x8202 + 1)))] (by kernel_rfl) ?_
                    exact fun a ha => ⟨n, Nat.lt_succ_self n, IntKind.i64.wrap (x8202 + 1), ha, (hS.re [3, 3, 3, 4] [4] rfl (sub_cons 0 rfl (sub_cons 0 rfl (sub_cons 2 rfl (sub_tail (sub_tail (sub_tail (sub_self)))))))), H⟩
              · rw [if_neg h8256] at H
                refine EW.exit (id := 4) (by kernel_rfl) ?_
                refine EQ.exitCode ?_
                refine EQ.exitTo ?_
                refine EQ.exitHere ?_
                refine EQ.to ?_
                refine EQ.keep [5, 6] [(5, .int .i64 (IntKind.i64.wrap ((IntKind.i64.wrap (Int.tmod a5 10)) + 1))), (6, .pointer (some ⟨g4190, 0, none⟩))] (by kernel_rfl) ?_
                exact fun a ha => ⟨ha, (hS.re [3, 3, 3, 3] [] rfl (sub_cons 0 rfl (sub_cons 0 rfl (sub_cons 2 rfl (sub_tail (sub_tail (sub_tail (sub_self)))))))), H⟩
          · obtain ⟨ha, hS, H⟩ := hI
            rw [hj8155] at H
            (try dsimp only at H)
            refine EW.at ?_ a ha
            clear ha a
            refine EW.seq (x := Cd14.r.r.r.r.r.r.r.r.r.l) (y := Cd14.r.r.r.r.r.r.r.r.r.r) (by kernel_rfl) ?_
            refine EW.region (id := 33) (ops := Cd14.r.r.r.r.r.r.r.r.r.l.ops) (by kernel_rfl) ?_
            refine EL.quick 1 [5, 6, 141] [(5, .int .i64 (IntKind.i64.wrap ((IntKind.i64.wrap (Int.tmod a5 10)) + 1))), (6, .pointer (some ⟨g4190, 0, none⟩)), (141, .pointer (some ⟨g4190, 0, none⟩))] (by kernel_rfl) ?_
            have hS : St B _ (Ass.box 99 g4190 [.slice A6862 x6861.length C6863, .slice A4193 t4189.length C4194] :: Ass.deep 87 75 kS75 A6862 C6863 x6861 :: Ass.own 3 (Kd.int .i64) A4193 C4194 t4189 :: Ass.own 75 kS75 A6859 C6860 x6858 :: os) (Ro.sl (Kd.int .i64) (some ⟨g4186, 0, none⟩) 1 l4187 :: Ro.sl (Kd.int .i64) (some ⟨g4186, 0, none⟩) 1 l4187 :: Ro.sl (Kd.int .u8) A7 C8 l6 :: rs) := hS.re [3, 3, 3] [] rfl sub_self
            obtain ⟨t8305, hc8308, H⟩ := b1_out H
            refine EL.of (EO.callD 57 [.pointer (some ⟨g4190, 0, none⟩)] _ 142 (by kernel_rfl) (by kernel_rfl) (by kernel_rfl) (future_Futures_All.calls hc8308 hS) ?_)
            rintro v w ⟨A8306, C8307, rfl, hS⟩
            refine EL.quick 3 [5, 6, 145] [(5, .int .i64 (IntKind.i64.wrap ((IntKind.i64.wrap (Int.tmod a5 10)) + 1))), (6, .pointer (some ⟨g4190, 0, none⟩)), (145, .bool (decide ((t8305.length : Int) = 1)))] (by kernel_rfl) ?_
            by_cases h8309 : (t8305.length : Int) = 1
            · rw [if_pos h8309] at H
              refine EL.keep [5, 6, 145] [(5, .int .i64 (IntKind.i64.wrap ((IntKind.i64.wrap (Int.tmod a5 10)) + 1))), (6, .pointer (some ⟨g4190, 0, none⟩)), (145, .bool (decide ((t8305.length : Int) = 1)))] (by kernel_rfl) ?_
              refine EL.as' [(5, .int .i64 (IntKind.i64.wrap ((IntKind.i64.wrap (Int.tmod a5 10)) + 1))), (6, .pointer (some ⟨g4190, 0, none⟩)), (145, .bool (true))] (by simp only [dec_t h8309, Bool.not_true, Bool.not_false]) ?_
              refine EL.quick 1 [5, 145, 146] [(5, .int .i64 (IntKind.i64.wrap ((IntKind.i64.wrap (Int.tmod a5 10)) + 1))), (145, .bool (true)), (146, .pointer (some ⟨g4190, 0, none⟩))] (by kernel_rfl) ?_
              obtain ⟨t8310, hc8313, H⟩ := b1_out H
              refine EL.of (EO.callD 57 [.pointer (some ⟨g4190, 0, none⟩)] _ 147 (by kernel_rfl) (by kernel_rfl) (by kernel_rfl) (future_Futures_All.calls hc8313 hS) ?_)
              rintro v w ⟨A8311, C8312, rfl, hS⟩
              obtain ⟨h8314, H⟩ := ite_in H
              obtain ⟨ad8315, rfl⟩ := St.deep_some hS 3 rfl (by decide) h8314
              refine EL.of (EO.Y (YO.idx 80 1 ad8315 t8310.length C8312 .i64 0 148 (by kernel_rfl) (by kernel_rfl) (by kernel_rfl) (by kernel_rfl) (by decide) h8314) ?_)
              refine EL.of (EO.openEl hS 3 ad8315 rfl 0 (by decide) h8314 (fun A8316 C8317 => Ass.box 99 g4190 [.slice A6862 x6861.length C6863, .slice A4193 t4189.length C4194] :: Ass.deep 87 75 kS75 A6862 C6863 x6861 :: Ass.own 3 (Kd.int .i64) A4193 C4194 t4189 :: Ass.holed 87 75 kS75 (some ad8315) C8312 t8310 (0 : Int).toNat (A8316, (t8310.getD (0 : Int).toNat []).length, C8317) :: Ass.deep 87 75 kS75 A8306 C8307 t8305 :: Ass.own 75 kS75 A6859 C6860 x6858 :: os) 87 149 (by kernel_rfl) (by kernel_rfl) (by kernel_rfl) (by kernel_rfl) (fun _ _ => rfl) ?_)
              intro A8316 C8317 hS
              refine EL.quick 5 [4] [(4, .bool (decide (((t8310.getD (0 : Int).toNat []).length : Int) = (IntKind.i64.wrap ((IntKind.i64.wrap (Int.tmod a5 10)) + 1)))))] (by kernel_rfl) ?_
              refine EL.done (by kernel_rfl) ?_
              refine EQ.code ?_
              refine EW.ret (by kernel_rfl) ?_
              have hS := St.as (os' := Ass.box 99 g4190 [.slice A6862 x6861.length C6863, .slice A4193 t4189.length C4194] :: Ass.deep 87 75 kS75 A6862 C6863 x6861 :: Ass.own 3 (Kd.int .i64) A4193 C4194 t4189 :: Ass.deep 87 75 kS75 (some ad8315) C8312 t8310 :: Ass.deep 87 75 kS75 A8306 C8307 t8305 :: Ass.own 75 kS75 A6859 C6860 x6858 :: os) (St.close hS 0 3 rfl rfl rfl t8310 (set_getD _ _)) rfl
              obtain rfl := Option.some.inj H
              exact EQ.leave (.bool (decide (((t8310.getD (0 : Int).toNat []).length : Int) = (IntKind.i64.wrap ((IntKind.i64.wrap (Int.tmod a5 10)) + 1))))) (by kernel_rfl) ⟨_, rfl, rfl, (hS.re [] [0, 0, 0, 0, 0, 0] rfl (sub_tail (sub_tail (sub_self))))⟩
            · rw [if_neg h8309] at H
              refine EL.keep [5, 6, 145] [(5, .int .i64 (IntKind.i64.wrap ((IntKind.i64.wrap (Int.tmod a5 10)) + 1))), (6, .pointer (some ⟨g4190, 0, none⟩)), (145, .bool (decide ((t8305.length : Int) = 1)))] (by kernel_rfl) ?_
              refine EL.as' [(5, .int .i64 (IntKind.i64.wrap ((IntKind.i64.wrap (Int.tmod a5 10)) + 1))), (6, .pointer (some ⟨g4190, 0, none⟩)), (145, .bool (false))] (by simp only [dec_f h8309, Bool.not_true, Bool.not_false]) ?_
              refine EL.quick 9 [4] [(4, .bool (false))] (by kernel_rfl) ?_
              refine EL.done (by kernel_rfl) ?_
              refine EQ.code ?_
              refine EW.ret (by kernel_rfl) ?_
              obtain rfl := Option.some.inj H
              exact EQ.leave (.bool (false)) (by kernel_rfl) ⟨_, rfl, rfl, (hS.re [] [0, 0, 0, 0, 0] rfl (sub_tail (sub_tail (sub_self))))⟩
  · rw [if_neg h4173] at H
    refine EW.seq (x := Cd14.r.l.r.l.l) (y := Cd14.r.l.r.l.r) (by kernel_rfl) ?_
    refine EW.region (id := 2) (ops := Cd14.r.l.r.l.l.ops) (by kernel_rfl) ?_
    refine EL.quick 1 [4] [(4, .bool (false))] (by kernel_rfl) ?_
    refine EL.done (by kernel_rfl) ?_
    refine EQ.code ?_
    refine EW.ret (by kernel_rfl) ?_
    refine EQ.ret ?_
    obtain rfl := Option.some.inj H
    exact EQ.leave (.bool (false)) (by kernel_rfl) ⟨_, rfl, rfl, (hS.re [] [] rfl (sub_self))⟩

def confidantlaw13_FutureApart.Pure : Prop := ∀ (a5 : Int) (l6 : List Int), (Lit.int .u8 a5).wf = true → l6.length * 1 ≤ 140737488351232 → (∀ x ∈ l6, (Lit.int .u8 x).wf = true) → ∃ K, confidantlaw13_FutureApart.f K a5 l6 = some true

end Go.Proofs.Ytjfnejcanlkknaa.G
