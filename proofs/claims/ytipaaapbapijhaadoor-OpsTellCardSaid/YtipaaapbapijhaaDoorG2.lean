import Derived.Test.YtipaaapbapijhaaDoorProg
import Derived.Test.YtipaaapbapijhaaDoorFwShort
import Derived.Test.YtipaaapbapijhaaDoorFwOpen
namespace Go.Proofs.YtipaaapbapijhaaDoor.G
open Go Go.Fw Go.RowKit Go.Proofs
set_option linter.unusedVariables false
set_option linter.unusedSimpArgs false

noncomputable def Cd3 : Code := bodyOf Tryd.f3

noncomputable def Cd8 : Code := bodyOf Tryd.f8

noncomputable def Cd10 : Code := bodyOf Tryd.f10

noncomputable def Cd12 : Code := bodyOf Tryd.f12

noncomputable def Cd14 : Code := bodyOf Tryd.f14

noncomputable def Cd16 : Code := bodyOf Tryd.f16

noncomputable def Cd18 : Code := bodyOf Tryd.f18

noncomputable def Cd20 : Code := bodyOf Tryd.f20

noncomputable def Cd23 : Code := bodyOf Tryd.f23

/-! ### confidant/confidantref5.Known: function 8 -/
def confidantref5_Known.f (K : Nat) (a25 : Int) : Option Bool := if a25 ≥ 1 then (some (decide (a25 ≤ 26))) else (some false)
set_option maxRecDepth 100000 in
theorem confidantref5_Known.calls {K : Nat} {a25 : Int} {x27 : Bool} {B w : World} {os : List Ass} {rs : List Ro} (H : confidantref5_Known.f K a25 = some x27) (hS : St B w (os) (rs)) :
  Calls Tryd.prog 8 [ia a25].toArray w (fun en w' => ∃ v, en = .returned v ∧ v = .bool (x27) ∧ St B w' (os) (rs)) := by
 unfold confidantref5_Known.f at H
 refine calls_of_EW (args := [ia a25]) (c := Cd8) 9 Tryd.func8 (by kernel_rfl) (by kernel_rfl) (by kernel_rfl) ?_
 refine EW.sq (by kernel_rfl) ?_
 refine EW.rg (by kernel_rfl) ?_
 refine EL.quick 1 [0] [(0, ia a25)] (by kernel_rfl) ?_
 refine EL.done (by kernel_rfl) ?_
 refine EQ.code ?_
 refine EW.sq (by kernel_rfl) ?_
 refine EW.rg (by kernel_rfl) ?_
 refine EL.quick 3 [0, 5] [(0, ia a25), (5, .bool (decide (a25 ≥ 1)))] (by kernel_rfl) ?_
 by_cases h28 : a25 ≥ 1
 ·rw [if_pos h28] at H
  refine EL.keep [0, 5] [(0, ia a25), (5, .bool (decide (a25 ≥ 1)))] (by kernel_rfl) ?_
  refine EL.as' [(0, ia a25), (5, .bool (true))] (by simp only [dec_t h28, Bool.not_true, Bool.not_false]) ?_
  refine EL.quick 4 [2] [(2, .bool (decide (a25 ≤ 26)))] (by kernel_rfl) ?_
  refine EL.done (by kernel_rfl) ?_
  refine EQ.code ?_
  refine EW.ret (by kernel_rfl) ?_
  obtain rfl := Option.some.inj H
  exact EQ.leave (.bool (decide (a25 ≤ 26))) (by kernel_rfl) ⟨_, rfl, rfl, (hS.re [] [] rfl (sub_self))⟩
 rw [if_neg h28] at H
 refine EL.keep [0, 5] [(0, ia a25), (5, .bool (decide (a25 ≥ 1)))] (by kernel_rfl) ?_
 refine EL.as' [(0, ia a25), (5, .bool (false))] (by simp only [dec_f h28, Bool.not_true, Bool.not_false]) ?_
 refine EL.quick 4 [2] [(2, .bool (false))] (by kernel_rfl) ?_
 refine EL.done (by kernel_rfl) ?_
 refine EQ.code ?_
 refine EW.ret (by kernel_rfl) ?_
 obtain rfl := Option.some.inj H
 exact EQ.leave (.bool (false)) (by kernel_rfl) ⟨_, rfl, rfl, (hS.re [] [] rfl (sub_self))⟩

/-! ### confidant/confidantref5.Arg: function 10 -/
def confidantref5_Arg.f (K : Nat) (a34 : Int) : Option Int := lt (fun (x81 : Bool) => (if x81 = true then (some 1) else (lt (fun (x88 : Bool) => (if x88 = true then (some 2) else (lt (fun (x95 : Bool) => (if x95 = true then (some 3) else (lt (fun (a1 : Bool) => (if a1 = true then (some 4) else (if a34 = 20 then (some 5) else (lt (fun (a2 : Bool) => (if a2 = true then (some 6) else (some 0))) fun a7 => (if a34 = 23 then (a7 true) else (a7 (decide (a34 = 24)))))))) fun a0 => (if a34 = 15 then (a0 true) else (if a34 = 16 then (a0 true) else (if a34 = 17 then (a0 true) else (a0 (decide (a34 = 22))))))))) fun j96 => (if a34 = 12 then (j96 true) else (j96 (decide (a34 = 13))))))) fun j89 => (if a34 = 10 then (j89 true) else (j89 (decide (a34 = 11))))))) fun j82 => (if a34 = 1 then (j82 true) else (j82 (decide (a34 = 26))))
set_option maxRecDepth 100000 in
theorem confidantref5_Arg.calls {K : Nat} {a34 : Int} {x77 : Int} {B w : World} {os : List Ass} {rs : List Ro} (H : confidantref5_Arg.f K a34 = some x77) (hS : St B w (os) (rs)) :
  Calls Tryd.prog 10 [ia a34].toArray w (fun en w' => ∃ v, en = .returned v ∧ v = ia x77 ∧ St B w' (os) (rs)) := by
 unfold confidantref5_Arg.f at H
 refine calls_of_EW (args := [ia a34]) (c := Cd10) 23 Tryd.func10 (by kernel_rfl) (by kernel_rfl) (by kernel_rfl) ?_
 refine EW.sq (by kernel_rfl) ?_
 refine EW.rg (by kernel_rfl) ?_
 refine EL.quick 1 [0] [(0, ia a34)] (by kernel_rfl) ?_
 refine EL.done (by kernel_rfl) ?_
 refine EQ.code ?_
 refine EW.sq (by kernel_rfl) ?_
 refine EW.sq (by kernel_rfl) ?_
 refine EW.rg (by kernel_rfl) ?_
 refine EL.quick 1 [3] [(3, ia a34)] (by kernel_rfl) ?_
 refine EL.done (by kernel_rfl) ?_
 refine EQ.code ?_
 refine EW.bl 0 (by kernel_rfl) ?_
 obtain ⟨j82, hj82, H⟩ := lt_out H
 refine EW.ct (fun a w => ∃ x81 : Bool, Sat 23 [(3, ia a34), (4, .bool (x81))] a ∧ St B w (os) (rs) ∧ j82 x81 = some x77) (by kernel_rfl) ?_ (fun a w hI => ?_)
 ·refine EW.sq (by kernel_rfl) ?_
  refine EW.rg (by kernel_rfl) ?_
  refine EL.quick 2 [3, 4] [(3, ia a34), (4, .bool (decide (a34 = 1)))] (by kernel_rfl) ?_
  refine EL.done (by kernel_rfl) ?_
  refine EQ.code ?_
  refine EW.cdP (a34 = 1) (by kernel_rfl) (by kernel_rfl) (fun h83 => ?_) (fun h83 => ?_)
  ·rw [if_pos h83] at H
   refine EW.keep [3, 4] [(3, ia a34), (4, .bool (decide (a34 = 1)))] (by kernel_rfl) ?_
   refine EW.as' [(3, ia a34), (4, .bool (true))] (by simp only [dec_t h83, Bool.not_true, Bool.not_false]) ?_
   refine EW.skip (by kernel_rfl) ?_
   refine EQ.to ?_
   refine EQ.keep [3, 4] [(3, ia a34), (4, .bool (true))] (by kernel_rfl) ?_
   exact fun a ha => ⟨true, ha, (hS.re [] [] rfl (sub_self)), H⟩
  rw [if_neg h83] at H
  refine EW.rg (by kernel_rfl) ?_
  refine EL.quick 2 [3, 4] [(3, ia a34), (4, .bool (decide (a34 = 26)))] (by kernel_rfl) ?_
  refine EL.done (by kernel_rfl) ?_
  refine EQ.to ?_
  refine EQ.keep [3, 4] [(3, ia a34), (4, .bool (decide (a34 = 26)))] (by kernel_rfl) ?_
  exact fun a ha => ⟨decide (a34 = 26), ha, (hS.re [] [] rfl (sub_self)), H⟩
 obtain ⟨x81, ha, hS, H⟩ := hI
 rw [hj82] at H
 (try dsimp only at H)
 refine EW.at ?_ a ha
 clear ha a
 refine EW.cdP' (x81) (by kernel_rfl) (by kernel_rfl) (fun h84 => ?_) (fun h84 => ?_)
 ·rw [if_pos h84] at H
  refine EW.sq (by kernel_rfl) ?_
  refine EW.rg (by kernel_rfl) ?_
  refine EL.quick 1 [2] [(2, ia 1)] (by kernel_rfl) ?_
  refine EL.done (by kernel_rfl) ?_
  refine EQ.code ?_
  refine EW.ret (by kernel_rfl) ?_
  refine EQ.ret ?_
  refine EQ.ret ?_
  obtain rfl := Option.some.inj H
  exact EQ.leave (ia 1) (by kernel_rfl) ⟨_, rfl, rfl, (hS.re [] [] rfl (sub_self))⟩
 rw [if_neg h84] at H
 obtain ⟨j89, hj89, H⟩ := lt_out H
 refine EW.ct (fun a w => ∃ x88 : Bool, Sat 23 [(3, ia a34), (7, .bool (x88))] a ∧ St B w (os) (rs) ∧ j89 x88 = some x77) (by kernel_rfl) ?_ (fun a w hI => ?_)
 ·refine EW.sq (by kernel_rfl) ?_
  refine EW.rg (by kernel_rfl) ?_
  refine EL.quick 2 [3, 7] [(3, ia a34), (7, .bool (decide (a34 = 10)))] (by kernel_rfl) ?_
  refine EL.done (by kernel_rfl) ?_
  refine EQ.code ?_
  refine EW.cdP (a34 = 10) (by kernel_rfl) (by kernel_rfl) (fun h90 => ?_) (fun h90 => ?_)
  ·rw [if_pos h90] at H
   refine EW.keep [3, 7] [(3, ia a34), (7, .bool (decide (a34 = 10)))] (by kernel_rfl) ?_
   refine EW.as' [(3, ia a34), (7, .bool (true))] (by simp only [dec_t h90, Bool.not_true, Bool.not_false]) ?_
   refine EW.skip (by kernel_rfl) ?_
   refine EQ.to ?_
   refine EQ.keep [3, 7] [(3, ia a34), (7, .bool (true))] (by kernel_rfl) ?_
   exact fun a ha => ⟨true, ha, (hS.re [] [] rfl (sub_self)), H⟩
  rw [if_neg h90] at H
  refine EW.rg (by kernel_rfl) ?_
  refine EL.quick 2 [3, 7] [(3, ia a34), (7, .bool (decide (a34 = 11)))] (by kernel_rfl) ?_
  refine EL.done (by kernel_rfl) ?_
  refine EQ.to ?_
  refine EQ.keep [3, 7] [(3, ia a34), (7, .bool (decide (a34 = 11)))] (by kernel_rfl) ?_
  exact fun a ha => ⟨decide (a34 = 11), ha, (hS.re [] [] rfl (sub_self)), H⟩
 obtain ⟨x88, ha, hS, H⟩ := hI
 rw [hj89] at H
 (try dsimp only at H)
 refine EW.at ?_ a ha
 clear ha a
 refine EW.cdP' (x88) (by kernel_rfl) (by kernel_rfl) (fun h91 => ?_) (fun h91 => ?_)
 ·rw [if_pos h91] at H
  refine EW.sq (by kernel_rfl) ?_
  refine EW.rg (by kernel_rfl) ?_
  refine EL.quick 1 [2] [(2, ia 2)] (by kernel_rfl) ?_
  refine EL.done (by kernel_rfl) ?_
  refine EQ.code ?_
  refine EW.ret (by kernel_rfl) ?_
  refine EQ.ret ?_
  refine EQ.ret ?_
  obtain rfl := Option.some.inj H
  exact EQ.leave (ia 2) (by kernel_rfl) ⟨_, rfl, rfl, (hS.re [] [] rfl (sub_self))⟩
 rw [if_neg h91] at H
 obtain ⟨j96, hj96, H⟩ := lt_out H
 refine EW.ct (fun a w => ∃ x95 : Bool, Sat 23 [(3, ia a34), (10, .bool (x95))] a ∧ St B w (os) (rs) ∧ j96 x95 = some x77) (by kernel_rfl) ?_ (fun a w hI => ?_)
 ·refine EW.sq (by kernel_rfl) ?_
  refine EW.rg (by kernel_rfl) ?_
  refine EL.quick 2 [3, 10] [(3, ia a34), (10, .bool (decide (a34 = 12)))] (by kernel_rfl) ?_
  refine EL.done (by kernel_rfl) ?_
  refine EQ.code ?_
  refine EW.cdP (a34 = 12) (by kernel_rfl) (by kernel_rfl) (fun h97 => ?_) (fun h97 => ?_)
  ·rw [if_pos h97] at H
   refine EW.keep [3, 10] [(3, ia a34), (10, .bool (decide (a34 = 12)))] (by kernel_rfl) ?_
   refine EW.as' [(3, ia a34), (10, .bool (true))] (by simp only [dec_t h97, Bool.not_true, Bool.not_false]) ?_
   refine EW.skip (by kernel_rfl) ?_
   refine EQ.to ?_
   refine EQ.keep [3, 10] [(3, ia a34), (10, .bool (true))] (by kernel_rfl) ?_
   exact fun a ha => ⟨true, ha, (hS.re [] [] rfl (sub_self)), H⟩
  rw [if_neg h97] at H
  refine EW.rg (by kernel_rfl) ?_
  refine EL.quick 2 [3, 10] [(3, ia a34), (10, .bool (decide (a34 = 13)))] (by kernel_rfl) ?_
  refine EL.done (by kernel_rfl) ?_
  refine EQ.to ?_
  refine EQ.keep [3, 10] [(3, ia a34), (10, .bool (decide (a34 = 13)))] (by kernel_rfl) ?_
  exact fun a ha => ⟨decide (a34 = 13), ha, (hS.re [] [] rfl (sub_self)), H⟩
 obtain ⟨x95, ha, hS, H⟩ := hI
 rw [hj96] at H
 (try dsimp only at H)
 refine EW.at ?_ a ha
 clear ha a
 refine EW.cdP' (x95) (by kernel_rfl) (by kernel_rfl) (fun h98 => ?_) (fun h98 => ?_)
 ·rw [if_pos h98] at H
  refine EW.sq (by kernel_rfl) ?_
  refine EW.rg (by kernel_rfl) ?_
  refine EL.quick 1 [2] [(2, ia 3)] (by kernel_rfl) ?_
  refine EL.done (by kernel_rfl) ?_
  refine EQ.code ?_
  refine EW.ret (by kernel_rfl) ?_
  refine EQ.ret ?_
  refine EQ.ret ?_
  obtain rfl := Option.some.inj H
  exact EQ.leave (ia 3) (by kernel_rfl) ⟨_, rfl, rfl, (hS.re [] [] rfl (sub_self))⟩
 rw [if_neg h98] at H
 obtain ⟨a0, b1, H⟩ := lt_out H
 refine EW.ct (fun a w => ∃ a1 : Bool, Sat 23 [(3, ia a34), (13, .bool (a1))] a ∧ St B w (os) (rs) ∧ a0 a1 = some x77) (by kernel_rfl) ?_ (fun a w hI => ?_)
 ·refine EW.sq (by kernel_rfl) ?_
  refine EW.rg (by kernel_rfl) ?_
  refine EL.quick 2 [3, 13] [(3, ia a34), (13, .bool (decide (a34 = 15)))] (by kernel_rfl) ?_
  refine EL.done (by kernel_rfl) ?_
  refine EQ.code ?_
  refine EW.cdP (a34 = 15) (by kernel_rfl) (by kernel_rfl) (fun a3 => ?_) (fun a3 => ?_)
  ·rw [if_pos a3] at H
   refine EW.keep [3, 13] [(3, ia a34), (13, .bool (decide (a34 = 15)))] (by kernel_rfl) ?_
   refine EW.as' [(3, ia a34), (13, .bool (true))] (by simp only [dec_t a3, Bool.not_true, Bool.not_false]) ?_
   refine EW.skip (by kernel_rfl) ?_
   refine EQ.to ?_
   refine EQ.keep [3, 13] [(3, ia a34), (13, .bool (true))] (by kernel_rfl) ?_
   exact fun a ha => ⟨true, ha, (hS.re [] [] rfl (sub_self)), H⟩
  rw [if_neg a3] at H
  refine EW.sq (by kernel_rfl) ?_
  refine EW.rg (by kernel_rfl) ?_
  refine EL.quick 2 [3, 13] [(3, ia a34), (13, .bool (decide (a34 = 16)))] (by kernel_rfl) ?_
  refine EL.done (by kernel_rfl) ?_
  refine EQ.code ?_
  refine EW.cdP (a34 = 16) (by kernel_rfl) (by kernel_rfl) (fun a4 => ?_) (fun a4 => ?_)
  ·rw [if_pos a4] at H
   refine EW.keep [3, 13] [(3, ia a34), (13, .bool (decide (a34 = 16)))] (by kernel_rfl) ?_
   refine EW.as' [(3, ia a34), (13, .bool (true))] (by simp only [dec_t a4, Bool.not_true, Bool.not_false]) ?_
   refine EW.skip (by kernel_rfl) ?_
   refine EQ.to ?_
   refine EQ.keep [3, 13] [(3, ia a34), (13, .bool (true))] (by kernel_rfl) ?_
   exact fun a ha => ⟨true, ha, (hS.re [] [] rfl (sub_self)), H⟩
  rw [if_neg a4] at H
  refine EW.sq (by kernel_rfl) ?_
  refine EW.rg (by kernel_rfl) ?_
  refine EL.quick 2 [3, 13] [(3, ia a34), (13, .bool (decide (a34 = 17)))] (by kernel_rfl) ?_
  refine EL.done (by kernel_rfl) ?_
  refine EQ.code ?_
  refine EW.cdP (a34 = 17) (by kernel_rfl) (by kernel_rfl) (fun a5 => ?_) (fun a5 => ?_)
  ·rw [if_pos a5] at H
   refine EW.keep [3, 13] [(3, ia a34), (13, .bool (decide (a34 = 17)))] (by kernel_rfl) ?_
   refine EW.as' [(3, ia a34), (13, .bool (true))] (by simp only [dec_t a5, Bool.not_true, Bool.not_false]) ?_
   refine EW.skip (by kernel_rfl) ?_
   refine EQ.to ?_
   refine EQ.keep [3, 13] [(3, ia a34), (13, .bool (true))] (by kernel_rfl) ?_
   exact fun a ha => ⟨true, ha, (hS.re [] [] rfl (sub_self)), H⟩
  rw [if_neg a5] at H
  refine EW.rg (by kernel_rfl) ?_
  refine EL.quick 2 [3, 13] [(3, ia a34), (13, .bool (decide (a34 = 22)))] (by kernel_rfl) ?_
  refine EL.done (by kernel_rfl) ?_
  refine EQ.to ?_
  refine EQ.keep [3, 13] [(3, ia a34), (13, .bool (decide (a34 = 22)))] (by kernel_rfl) ?_
  exact fun a ha => ⟨decide (a34 = 22), ha, (hS.re [] [] rfl (sub_self)), H⟩
 obtain ⟨a1, ha, hS, H⟩ := hI
 rw [b1] at H
 (try dsimp only at H)
 refine EW.at ?_ a ha
 clear ha a
 refine EW.cdP' (a1) (by kernel_rfl) (by kernel_rfl) (fun a8 => ?_) (fun a8 => ?_)
 ·rw [if_pos a8] at H
  refine EW.sq (by kernel_rfl) ?_
  refine EW.rg (by kernel_rfl) ?_
  refine EL.quick 1 [2] [(2, ia 4)] (by kernel_rfl) ?_
  refine EL.done (by kernel_rfl) ?_
  refine EQ.code ?_
  refine EW.ret (by kernel_rfl) ?_
  refine EQ.ret ?_
  refine EQ.ret ?_
  obtain rfl := Option.some.inj H
  exact EQ.leave (ia 4) (by kernel_rfl) ⟨_, rfl, rfl, (hS.re [] [] rfl (sub_self))⟩
 rw [if_neg a8] at H
 refine EW.sq (by kernel_rfl) ?_
 refine EW.rg (by kernel_rfl) ?_
 refine EL.quick 2 [3, 18] [(3, ia a34), (18, .bool (decide (a34 = 20)))] (by kernel_rfl) ?_
 refine EL.done (by kernel_rfl) ?_
 refine EQ.code ?_
 refine EW.cdP (a34 = 20) (by kernel_rfl) (by kernel_rfl) (fun a9 => ?_) (fun a9 => ?_)
 ·rw [if_pos a9] at H
  refine EW.sq (by kernel_rfl) ?_
  refine EW.rg (by kernel_rfl) ?_
  refine EL.quick 1 [2] [(2, ia 5)] (by kernel_rfl) ?_
  refine EL.done (by kernel_rfl) ?_
  refine EQ.code ?_
  refine EW.ret (by kernel_rfl) ?_
  refine EQ.ret ?_
  refine EQ.ret ?_
  obtain rfl := Option.some.inj H
  exact EQ.leave (ia 5) (by kernel_rfl) ⟨_, rfl, rfl, (hS.re [] [] rfl (sub_self))⟩
 rw [if_neg a9] at H
 obtain ⟨a7, b2, H⟩ := lt_out H
 refine EW.ct (fun a w => ∃ a2 : Bool, Sat 23 [(20, .bool (a2))] a ∧ St B w (os) (rs) ∧ a7 a2 = some x77) (by kernel_rfl) ?_ (fun a w hI => ?_)
 ·refine EW.sq (by kernel_rfl) ?_
  refine EW.rg (by kernel_rfl) ?_
  refine EL.quick 2 [3, 20] [(3, ia a34), (20, .bool (decide (a34 = 23)))] (by kernel_rfl) ?_
  refine EL.done (by kernel_rfl) ?_
  refine EQ.code ?_
  refine EW.cdP (a34 = 23) (by kernel_rfl) (by kernel_rfl) (fun a6 => ?_) (fun a6 => ?_)
  ·rw [if_pos a6] at H
   refine EW.keep [20] [(20, .bool (decide (a34 = 23)))] (by kernel_rfl) ?_
   refine EW.as' [(20, .bool (true))] (by simp only [dec_t a6, Bool.not_true, Bool.not_false]) ?_
   refine EW.skip (by kernel_rfl) ?_
   refine EQ.to ?_
   refine EQ.keep [20] [(20, .bool (true))] (by kernel_rfl) ?_
   exact fun a ha => ⟨true, ha, (hS.re [] [] rfl (sub_self)), H⟩
  rw [if_neg a6] at H
  refine EW.rg (by kernel_rfl) ?_
  refine EL.quick 2 [20] [(20, .bool (decide (a34 = 24)))] (by kernel_rfl) ?_
  refine EL.done (by kernel_rfl) ?_
  refine EQ.to ?_
  refine EQ.keep [20] [(20, .bool (decide (a34 = 24)))] (by kernel_rfl) ?_
  exact fun a ha => ⟨decide (a34 = 24), ha, (hS.re [] [] rfl (sub_self)), H⟩
 obtain ⟨a2, ha, hS, H⟩ := hI
 rw [b2] at H
 (try dsimp only at H)
 refine EW.at ?_ a ha
 clear ha a
 refine EW.cdP' (a2) (by kernel_rfl) (by kernel_rfl) (fun b0 => ?_) (fun b0 => ?_)
 ·rw [if_pos b0] at H
  refine EW.sq (by kernel_rfl) ?_
  refine EW.rg (by kernel_rfl) ?_
  refine EL.quick 1 [2] [(2, ia 6)] (by kernel_rfl) ?_
  refine EL.done (by kernel_rfl) ?_
  refine EQ.code ?_
  refine EW.ret (by kernel_rfl) ?_
  refine EQ.ret ?_
  refine EQ.ret ?_
  obtain rfl := Option.some.inj H
  exact EQ.leave (ia 6) (by kernel_rfl) ⟨_, rfl, rfl, (hS.re [] [] rfl (sub_self))⟩
 rw [if_neg b0] at H
 refine EW.skip (by kernel_rfl) ?_
 refine EQ.pop ?_
 refine EQ.code ?_
 refine EW.sq (by kernel_rfl) ?_
 refine EW.rg (by kernel_rfl) ?_
 refine EL.quick 1 [2] [(2, ia 0)] (by kernel_rfl) ?_
 refine EL.done (by kernel_rfl) ?_
 refine EQ.code ?_
 refine EW.ret (by kernel_rfl) ?_
 obtain rfl := Option.some.inj H
 exact EQ.leave (ia 0) (by kernel_rfl) ⟨_, rfl, rfl, (hS.re [] [] rfl (sub_self))⟩

/-! ### confidant/confidantref5.Pops: function 12 -/
def confidantref5_Pops.f (K : Nat) (a0 : Int) : Option Int := lt (fun (a3 : Bool) => (if a3 = true then (some 1) else (lt (fun (a4 : Bool) => (if a4 = true then (some 2) else (some 0))) fun a2 => (if a0 = 4 then (a2 true) else (if a0 = 5 then (a2 true) else (if a0 = 6 then (a2 true) else (if a0 = 7 then (a2 true) else (if a0 = 8 then (a2 true) else (if a0 = 9 then (a2 true) else (if a0 = 19 then (a2 true) else (a2 (decide (a0 = 20))))))))))))) fun a1 => (if a0 = 2 then (a1 true) else (if a0 = 3 then (a1 true) else (if a0 = 11 then (a1 true) else (if a0 = 13 then (a1 true) else (if a0 = 16 then (a1 true) else (if a0 = 17 then (a1 true) else (if a0 = 18 then (a1 true) else (if a0 = 21 then (a1 true) else (if a0 = 22 then (a1 true) else (if a0 = 23 then (a1 true) else (a1 (decide (a0 = 25)))))))))))))
set_option maxRecDepth 100000 in
theorem confidantref5_Pops.calls {K : Nat} {a0 : Int} {c2 : Int} {B w : World} {os : List Ass} {rs : List Ro} (H : confidantref5_Pops.f K a0 = some c2) (hS : St B w (os) (rs)) :
  Calls Tryd.prog 12 [ia a0].toArray w (fun en w' => ∃ v, en = .returned v ∧ v = ia c2 ∧ St B w' (os) (rs)) := by
 unfold confidantref5_Pops.f at H
 refine calls_of_EW (args := [ia a0]) (c := Cd12) 25 Tryd.func12 (by kernel_rfl) (by kernel_rfl) (by kernel_rfl) ?_
 refine EW.sq (by kernel_rfl) ?_
 refine EW.rg (by kernel_rfl) ?_
 refine EL.quick 1 [0] [(0, ia a0)] (by kernel_rfl) ?_
 refine EL.done (by kernel_rfl) ?_
 refine EQ.code ?_
 refine EW.sq (by kernel_rfl) ?_
 refine EW.sq (by kernel_rfl) ?_
 refine EW.rg (by kernel_rfl) ?_
 refine EL.quick 1 [3] [(3, ia a0)] (by kernel_rfl) ?_
 refine EL.done (by kernel_rfl) ?_
 refine EQ.code ?_
 refine EW.bl 0 (by kernel_rfl) ?_
 obtain ⟨a1, c5, H⟩ := lt_out H
 refine EW.ct (fun a w => ∃ a3 : Bool, Sat 25 [(3, ia a0), (4, .bool (a3))] a ∧ St B w (os) (rs) ∧ a1 a3 = some c2) (by kernel_rfl) ?_ (fun a w hI => ?_)
 ·refine EW.sq (by kernel_rfl) ?_
  refine EW.rg (by kernel_rfl) ?_
  refine EL.quick 2 [3, 4] [(3, ia a0), (4, .bool (decide (a0 = 2)))] (by kernel_rfl) ?_
  refine EL.done (by kernel_rfl) ?_
  refine EQ.code ?_
  refine EW.cdP (a0 = 2) (by kernel_rfl) (by kernel_rfl) (fun a5 => ?_) (fun a5 => ?_)
  ·rw [if_pos a5] at H
   refine EW.keep [3, 4] [(3, ia a0), (4, .bool (decide (a0 = 2)))] (by kernel_rfl) ?_
   refine EW.as' [(3, ia a0), (4, .bool (true))] (by simp only [dec_t a5, Bool.not_true, Bool.not_false]) ?_
   refine EW.skip (by kernel_rfl) ?_
   refine EQ.to ?_
   refine EQ.keep [3, 4] [(3, ia a0), (4, .bool (true))] (by kernel_rfl) ?_
   exact fun a ha => ⟨true, ha, (hS.re [] [] rfl (sub_self)), H⟩
  rw [if_neg a5] at H
  refine EW.sq (by kernel_rfl) ?_
  refine EW.rg (by kernel_rfl) ?_
  refine EL.quick 2 [3, 4] [(3, ia a0), (4, .bool (decide (a0 = 3)))] (by kernel_rfl) ?_
  refine EL.done (by kernel_rfl) ?_
  refine EQ.code ?_
  refine EW.cdP (a0 = 3) (by kernel_rfl) (by kernel_rfl) (fun a6 => ?_) (fun a6 => ?_)
  ·rw [if_pos a6] at H
   refine EW.keep [3, 4] [(3, ia a0), (4, .bool (decide (a0 = 3)))] (by kernel_rfl) ?_
   refine EW.as' [(3, ia a0), (4, .bool (true))] (by simp only [dec_t a6, Bool.not_true, Bool.not_false]) ?_
   refine EW.skip (by kernel_rfl) ?_
   refine EQ.to ?_
   refine EQ.keep [3, 4] [(3, ia a0), (4, .bool (true))] (by kernel_rfl) ?_
   exact fun a ha => ⟨true, ha, (hS.re [] [] rfl (sub_self)), H⟩
  rw [if_neg a6] at H
  refine EW.sq (by kernel_rfl) ?_
  refine EW.rg (by kernel_rfl) ?_
  refine EL.quick 2 [3, 4] [(3, ia a0), (4, .bool (decide (a0 = 11)))] (by kernel_rfl) ?_
  refine EL.done (by kernel_rfl) ?_
  refine EQ.code ?_
  refine EW.cdP (a0 = 11) (by kernel_rfl) (by kernel_rfl) (fun a7 => ?_) (fun a7 => ?_)
  ·rw [if_pos a7] at H
   refine EW.keep [3, 4] [(3, ia a0), (4, .bool (decide (a0 = 11)))] (by kernel_rfl) ?_
   refine EW.as' [(3, ia a0), (4, .bool (true))] (by simp only [dec_t a7, Bool.not_true, Bool.not_false]) ?_
   refine EW.skip (by kernel_rfl) ?_
   refine EQ.to ?_
   refine EQ.keep [3, 4] [(3, ia a0), (4, .bool (true))] (by kernel_rfl) ?_
   exact fun a ha => ⟨true, ha, (hS.re [] [] rfl (sub_self)), H⟩
  rw [if_neg a7] at H
  refine EW.sq (by kernel_rfl) ?_
  refine EW.rg (by kernel_rfl) ?_
  refine EL.quick 2 [3, 4] [(3, ia a0), (4, .bool (decide (a0 = 13)))] (by kernel_rfl) ?_
  refine EL.done (by kernel_rfl) ?_
  refine EQ.code ?_
  refine EW.cdP (a0 = 13) (by kernel_rfl) (by kernel_rfl) (fun a8 => ?_) (fun a8 => ?_)
  ·rw [if_pos a8] at H
   refine EW.keep [3, 4] [(3, ia a0), (4, .bool (decide (a0 = 13)))] (by kernel_rfl) ?_
   refine EW.as' [(3, ia a0), (4, .bool (true))] (by simp only [dec_t a8, Bool.not_true, Bool.not_false]) ?_
   refine EW.skip (by kernel_rfl) ?_
   refine EQ.to ?_
   refine EQ.keep [3, 4] [(3, ia a0), (4, .bool (true))] (by kernel_rfl) ?_
   exact fun a ha => ⟨true, ha, (hS.re [] [] rfl (sub_self)), H⟩
  rw [if_neg a8] at H
  refine EW.sq (by kernel_rfl) ?_
  refine EW.rg (by kernel_rfl) ?_
  refine EL.quick 2 [3, 4] [(3, ia a0), (4, .bool (decide (a0 = 16)))] (by kernel_rfl) ?_
  refine EL.done (by kernel_rfl) ?_
  refine EQ.code ?_
  refine EW.cdP (a0 = 16) (by kernel_rfl) (by kernel_rfl) (fun a9 => ?_) (fun a9 => ?_)
  ·rw [if_pos a9] at H
   refine EW.keep [3, 4] [(3, ia a0), (4, .bool (decide (a0 = 16)))] (by kernel_rfl) ?_
   refine EW.as' [(3, ia a0), (4, .bool (true))] (by simp only [dec_t a9, Bool.not_true, Bool.not_false]) ?_
   refine EW.skip (by kernel_rfl) ?_
   refine EQ.to ?_
   refine EQ.keep [3, 4] [(3, ia a0), (4, .bool (true))] (by kernel_rfl) ?_
   exact fun a ha => ⟨true, ha, (hS.re [] [] rfl (sub_self)), H⟩
  rw [if_neg a9] at H
  refine EW.sq (by kernel_rfl) ?_
  refine EW.rg (by kernel_rfl) ?_
  refine EL.quick 2 [3, 4] [(3, ia a0), (4, .bool (decide (a0 = 17)))] (by kernel_rfl) ?_
  refine EL.done (by kernel_rfl) ?_
  refine EQ.code ?_
  refine EW.cdP (a0 = 17) (by kernel_rfl) (by kernel_rfl) (fun b0 => ?_) (fun b0 => ?_)
  ·rw [if_pos b0] at H
   refine EW.keep [3, 4] [(3, ia a0), (4, .bool (decide (a0 = 17)))] (by kernel_rfl) ?_
   refine EW.as' [(3, ia a0), (4, .bool (true))] (by simp only [dec_t b0, Bool.not_true, Bool.not_false]) ?_
   refine EW.skip (by kernel_rfl) ?_
   refine EQ.to ?_
   refine EQ.keep [3, 4] [(3, ia a0), (4, .bool (true))] (by kernel_rfl) ?_
   exact fun a ha => ⟨true, ha, (hS.re [] [] rfl (sub_self)), H⟩
  rw [if_neg b0] at H
  refine EW.sq (by kernel_rfl) ?_
  refine EW.rg (by kernel_rfl) ?_
  refine EL.quick 2 [3, 4] [(3, ia a0), (4, .bool (decide (a0 = 18)))] (by kernel_rfl) ?_
  refine EL.done (by kernel_rfl) ?_
  refine EQ.code ?_
  refine EW.cdP (a0 = 18) (by kernel_rfl) (by kernel_rfl) (fun b1 => ?_) (fun b1 => ?_)
  ·rw [if_pos b1] at H
   refine EW.keep [3, 4] [(3, ia a0), (4, .bool (decide (a0 = 18)))] (by kernel_rfl) ?_
   refine EW.as' [(3, ia a0), (4, .bool (true))] (by simp only [dec_t b1, Bool.not_true, Bool.not_false]) ?_
   refine EW.skip (by kernel_rfl) ?_
   refine EQ.to ?_
   refine EQ.keep [3, 4] [(3, ia a0), (4, .bool (true))] (by kernel_rfl) ?_
   exact fun a ha => ⟨true, ha, (hS.re [] [] rfl (sub_self)), H⟩
  rw [if_neg b1] at H
  refine EW.sq (by kernel_rfl) ?_
  refine EW.rg (by kernel_rfl) ?_
  refine EL.quick 2 [3, 4] [(3, ia a0), (4, .bool (decide (a0 = 21)))] (by kernel_rfl) ?_
  refine EL.done (by kernel_rfl) ?_
  refine EQ.code ?_
  refine EW.cdP (a0 = 21) (by kernel_rfl) (by kernel_rfl) (fun b2 => ?_) (fun b2 => ?_)
  ·rw [if_pos b2] at H
   refine EW.keep [3, 4] [(3, ia a0), (4, .bool (decide (a0 = 21)))] (by kernel_rfl) ?_
   refine EW.as' [(3, ia a0), (4, .bool (true))] (by simp only [dec_t b2, Bool.not_true, Bool.not_false]) ?_
   refine EW.skip (by kernel_rfl) ?_
   refine EQ.to ?_
   refine EQ.keep [3, 4] [(3, ia a0), (4, .bool (true))] (by kernel_rfl) ?_
   exact fun a ha => ⟨true, ha, (hS.re [] [] rfl (sub_self)), H⟩
  rw [if_neg b2] at H
  refine EW.sq (by kernel_rfl) ?_
  refine EW.rg (by kernel_rfl) ?_
  refine EL.quick 2 [3, 4] [(3, ia a0), (4, .bool (decide (a0 = 22)))] (by kernel_rfl) ?_
  refine EL.done (by kernel_rfl) ?_
  refine EQ.code ?_
  refine EW.cdP (a0 = 22) (by kernel_rfl) (by kernel_rfl) (fun b3 => ?_) (fun b3 => ?_)
  ·rw [if_pos b3] at H
   refine EW.keep [3, 4] [(3, ia a0), (4, .bool (decide (a0 = 22)))] (by kernel_rfl) ?_
   refine EW.as' [(3, ia a0), (4, .bool (true))] (by simp only [dec_t b3, Bool.not_true, Bool.not_false]) ?_
   refine EW.skip (by kernel_rfl) ?_
   refine EQ.to ?_
   refine EQ.keep [3, 4] [(3, ia a0), (4, .bool (true))] (by kernel_rfl) ?_
   exact fun a ha => ⟨true, ha, (hS.re [] [] rfl (sub_self)), H⟩
  rw [if_neg b3] at H
  refine EW.sq (by kernel_rfl) ?_
  refine EW.rg (by kernel_rfl) ?_
  refine EL.quick 2 [3, 4] [(3, ia a0), (4, .bool (decide (a0 = 23)))] (by kernel_rfl) ?_
  refine EL.done (by kernel_rfl) ?_
  refine EQ.code ?_
  refine EW.cdP (a0 = 23) (by kernel_rfl) (by kernel_rfl) (fun b4 => ?_) (fun b4 => ?_)
  ·rw [if_pos b4] at H
   refine EW.keep [3, 4] [(3, ia a0), (4, .bool (decide (a0 = 23)))] (by kernel_rfl) ?_
   refine EW.as' [(3, ia a0), (4, .bool (true))] (by simp only [dec_t b4, Bool.not_true, Bool.not_false]) ?_
   refine EW.skip (by kernel_rfl) ?_
   refine EQ.to ?_
   refine EQ.keep [3, 4] [(3, ia a0), (4, .bool (true))] (by kernel_rfl) ?_
   exact fun a ha => ⟨true, ha, (hS.re [] [] rfl (sub_self)), H⟩
  rw [if_neg b4] at H
  refine EW.rg (by kernel_rfl) ?_
  refine EL.quick 2 [3, 4] [(3, ia a0), (4, .bool (decide (a0 = 25)))] (by kernel_rfl) ?_
  refine EL.done (by kernel_rfl) ?_
  refine EQ.to ?_
  refine EQ.keep [3, 4] [(3, ia a0), (4, .bool (decide (a0 = 25)))] (by kernel_rfl) ?_
  exact fun a ha => ⟨decide (a0 = 25), ha, (hS.re [] [] rfl (sub_self)), H⟩
 obtain ⟨a3, ha, hS, H⟩ := hI
 rw [c5] at H
 (try dsimp only at H)
 refine EW.at ?_ a ha
 clear ha a
 refine EW.cdP' (a3) (by kernel_rfl) (by kernel_rfl) (fun c3 => ?_) (fun c3 => ?_)
 ·rw [if_pos c3] at H
  refine EW.sq (by kernel_rfl) ?_
  refine EW.rg (by kernel_rfl) ?_
  refine EL.quick 1 [2] [(2, ia 1)] (by kernel_rfl) ?_
  refine EL.done (by kernel_rfl) ?_
  refine EQ.code ?_
  refine EW.ret (by kernel_rfl) ?_
  refine EQ.ret ?_
  refine EQ.ret ?_
  obtain rfl := Option.some.inj H
  exact EQ.leave (ia 1) (by kernel_rfl) ⟨_, rfl, rfl, (hS.re [] [] rfl (sub_self))⟩
 rw [if_neg c3] at H
 obtain ⟨a2, c6, H⟩ := lt_out H
 refine EW.ct (fun a w => ∃ a4 : Bool, Sat 25 [(16, .bool (a4))] a ∧ St B w (os) (rs) ∧ a2 a4 = some c2) (by kernel_rfl) ?_ (fun a w hI => ?_)
 ·refine EW.sq (by kernel_rfl) ?_
  refine EW.rg (by kernel_rfl) ?_
  refine EL.quick 2 [3, 16] [(3, ia a0), (16, .bool (decide (a0 = 4)))] (by kernel_rfl) ?_
  refine EL.done (by kernel_rfl) ?_
  refine EQ.code ?_
  refine EW.cdP (a0 = 4) (by kernel_rfl) (by kernel_rfl) (fun b5 => ?_) (fun b5 => ?_)
  ·rw [if_pos b5] at H
   refine EW.keep [16] [(16, .bool (decide (a0 = 4)))] (by kernel_rfl) ?_
   refine EW.as' [(16, .bool (true))] (by simp only [dec_t b5, Bool.not_true, Bool.not_false]) ?_
   refine EW.skip (by kernel_rfl) ?_
   refine EQ.to ?_
   refine EQ.keep [16] [(16, .bool (true))] (by kernel_rfl) ?_
   exact fun a ha => ⟨true, ha, (hS.re [] [] rfl (sub_self)), H⟩
  rw [if_neg b5] at H
  refine EW.sq (by kernel_rfl) ?_
  refine EW.rg (by kernel_rfl) ?_
  refine EL.quick 2 [3, 16] [(3, ia a0), (16, .bool (decide (a0 = 5)))] (by kernel_rfl) ?_
  refine EL.done (by kernel_rfl) ?_
  refine EQ.code ?_
  refine EW.cdP (a0 = 5) (by kernel_rfl) (by kernel_rfl) (fun b6 => ?_) (fun b6 => ?_)
  ·rw [if_pos b6] at H
   refine EW.keep [16] [(16, .bool (decide (a0 = 5)))] (by kernel_rfl) ?_
   refine EW.as' [(16, .bool (true))] (by simp only [dec_t b6, Bool.not_true, Bool.not_false]) ?_
   refine EW.skip (by kernel_rfl) ?_
   refine EQ.to ?_
   refine EQ.keep [16] [(16, .bool (true))] (by kernel_rfl) ?_
   exact fun a ha => ⟨true, ha, (hS.re [] [] rfl (sub_self)), H⟩
  rw [if_neg b6] at H
  refine EW.sq (by kernel_rfl) ?_
  refine EW.rg (by kernel_rfl) ?_
  refine EL.quick 2 [3, 16] [(3, ia a0), (16, .bool (decide (a0 = 6)))] (by kernel_rfl) ?_
  refine EL.done (by kernel_rfl) ?_
  refine EQ.code ?_
  refine EW.cdP (a0 = 6) (by kernel_rfl) (by kernel_rfl) (fun b7 => ?_) (fun b7 => ?_)
  ·rw [if_pos b7] at H
   refine EW.keep [16] [(16, .bool (decide (a0 = 6)))] (by kernel_rfl) ?_
   refine EW.as' [(16, .bool (true))] (by simp only [dec_t b7, Bool.not_true, Bool.not_false]) ?_
   refine EW.skip (by kernel_rfl) ?_
   refine EQ.to ?_
   refine EQ.keep [16] [(16, .bool (true))] (by kernel_rfl) ?_
   exact fun a ha => ⟨true, ha, (hS.re [] [] rfl (sub_self)), H⟩
  rw [if_neg b7] at H
  refine EW.sq (by kernel_rfl) ?_
  refine EW.rg (by kernel_rfl) ?_
  refine EL.quick 2 [3, 16] [(3, ia a0), (16, .bool (decide (a0 = 7)))] (by kernel_rfl) ?_
  refine EL.done (by kernel_rfl) ?_
  refine EQ.code ?_
  refine EW.cdP (a0 = 7) (by kernel_rfl) (by kernel_rfl) (fun b8 => ?_) (fun b8 => ?_)
  ·rw [if_pos b8] at H
   refine EW.keep [16] [(16, .bool (decide (a0 = 7)))] (by kernel_rfl) ?_
   refine EW.as' [(16, .bool (true))] (by simp only [dec_t b8, Bool.not_true, Bool.not_false]) ?_
   refine EW.skip (by kernel_rfl) ?_
   refine EQ.to ?_
   refine EQ.keep [16] [(16, .bool (true))] (by kernel_rfl) ?_
   exact fun a ha => ⟨true, ha, (hS.re [] [] rfl (sub_self)), H⟩
  rw [if_neg b8] at H
  refine EW.sq (by kernel_rfl) ?_
  refine EW.rg (by kernel_rfl) ?_
  refine EL.quick 2 [3, 16] [(3, ia a0), (16, .bool (decide (a0 = 8)))] (by kernel_rfl) ?_
  refine EL.done (by kernel_rfl) ?_
  refine EQ.code ?_
  refine EW.cdP (a0 = 8) (by kernel_rfl) (by kernel_rfl) (fun b9 => ?_) (fun b9 => ?_)
  ·rw [if_pos b9] at H
   refine EW.keep [16] [(16, .bool (decide (a0 = 8)))] (by kernel_rfl) ?_
   refine EW.as' [(16, .bool (true))] (by simp only [dec_t b9, Bool.not_true, Bool.not_false]) ?_
   refine EW.skip (by kernel_rfl) ?_
   refine EQ.to ?_
   refine EQ.keep [16] [(16, .bool (true))] (by kernel_rfl) ?_
   exact fun a ha => ⟨true, ha, (hS.re [] [] rfl (sub_self)), H⟩
  rw [if_neg b9] at H
  refine EW.sq (by kernel_rfl) ?_
  refine EW.rg (by kernel_rfl) ?_
  refine EL.quick 2 [3, 16] [(3, ia a0), (16, .bool (decide (a0 = 9)))] (by kernel_rfl) ?_
  refine EL.done (by kernel_rfl) ?_
  refine EQ.code ?_
  refine EW.cdP (a0 = 9) (by kernel_rfl) (by kernel_rfl) (fun c0 => ?_) (fun c0 => ?_)
  ·rw [if_pos c0] at H
   refine EW.keep [16] [(16, .bool (decide (a0 = 9)))] (by kernel_rfl) ?_
   refine EW.as' [(16, .bool (true))] (by simp only [dec_t c0, Bool.not_true, Bool.not_false]) ?_
   refine EW.skip (by kernel_rfl) ?_
   refine EQ.to ?_
   refine EQ.keep [16] [(16, .bool (true))] (by kernel_rfl) ?_
   exact fun a ha => ⟨true, ha, (hS.re [] [] rfl (sub_self)), H⟩
  rw [if_neg c0] at H
  refine EW.sq (by kernel_rfl) ?_
  refine EW.rg (by kernel_rfl) ?_
  refine EL.quick 2 [3, 16] [(3, ia a0), (16, .bool (decide (a0 = 19)))] (by kernel_rfl) ?_
  refine EL.done (by kernel_rfl) ?_
  refine EQ.code ?_
  refine EW.cdP (a0 = 19) (by kernel_rfl) (by kernel_rfl) (fun c1 => ?_) (fun c1 => ?_)
  ·rw [if_pos c1] at H
   refine EW.keep [16] [(16, .bool (decide (a0 = 19)))] (by kernel_rfl) ?_
   refine EW.as' [(16, .bool (true))] (by simp only [dec_t c1, Bool.not_true, Bool.not_false]) ?_
   refine EW.skip (by kernel_rfl) ?_
   refine EQ.to ?_
   refine EQ.keep [16] [(16, .bool (true))] (by kernel_rfl) ?_
   exact fun a ha => ⟨true, ha, (hS.re [] [] rfl (sub_self)), H⟩
  rw [if_neg c1] at H
  refine EW.rg (by kernel_rfl) ?_
  refine EL.quick 2 [16] [(16, .bool (decide (a0 = 20)))] (by kernel_rfl) ?_
  refine EL.done (by kernel_rfl) ?_
  refine EQ.to ?_
  refine EQ.keep [16] [(16, .bool (decide (a0 = 20)))] (by kernel_rfl) ?_
  exact fun a ha => ⟨decide (a0 = 20), ha, (hS.re [] [] rfl (sub_self)), H⟩
 obtain ⟨a4, ha, hS, H⟩ := hI
 rw [c6] at H
 (try dsimp only at H)
 refine EW.at ?_ a ha
 clear ha a
 refine EW.cdP' (a4) (by kernel_rfl) (by kernel_rfl) (fun c4 => ?_) (fun c4 => ?_)
 ·rw [if_pos c4] at H
  refine EW.sq (by kernel_rfl) ?_
  refine EW.rg (by kernel_rfl) ?_
  refine EL.quick 1 [2] [(2, ia 2)] (by kernel_rfl) ?_
  refine EL.done (by kernel_rfl) ?_
  refine EQ.code ?_
  refine EW.ret (by kernel_rfl) ?_
  refine EQ.ret ?_
  refine EQ.ret ?_
  obtain rfl := Option.some.inj H
  exact EQ.leave (ia 2) (by kernel_rfl) ⟨_, rfl, rfl, (hS.re [] [] rfl (sub_self))⟩
 rw [if_neg c4] at H
 refine EW.skip (by kernel_rfl) ?_
 refine EQ.pop ?_
 refine EQ.code ?_
 refine EW.sq (by kernel_rfl) ?_
 refine EW.rg (by kernel_rfl) ?_
 refine EL.quick 1 [2] [(2, ia 0)] (by kernel_rfl) ?_
 refine EL.done (by kernel_rfl) ?_
 refine EQ.code ?_
 refine EW.ret (by kernel_rfl) ?_
 obtain rfl := Option.some.inj H
 exact EQ.leave (ia 0) (by kernel_rfl) ⟨_, rfl, rfl, (hS.re [] [] rfl (sub_self))⟩

/-! ### confidant/confidantref5.Pushes: function 14 -/
def confidantref5_Pushes.f (K : Nat) (a0 : Int) : Option Int := lt (fun (a2 : Bool) => (if a2 = true then (some 1) else (lt (fun (a3 : Bool) => (if a3 = true then (some 2) else (some 0))) fun b9 => (if a0 = 3 then (b9 true) else (b9 (decide (a0 = 24))))))) fun a1 => (if a0 = 1 then (a1 true) else (if a0 = 4 then (a1 true) else (if a0 = 5 then (a1 true) else (if a0 = 6 then (a1 true) else (if a0 = 7 then (a1 true) else (if a0 = 8 then (a1 true) else (if a0 = 9 then (a1 true) else (if a0 = 12 then (a1 true) else (if a0 = 14 then (a1 true) else (if a0 = 16 then (a1 true) else (if a0 = 17 then (a1 true) else (if a0 = 18 then (a1 true) else (if a0 = 20 then (a1 true) else (if a0 = 21 then (a1 true) else (a1 (decide (a0 = 23)))))))))))))))))
set_option maxRecDepth 100000 in
theorem confidantref5_Pushes.calls {K : Nat} {a0 : Int} {c0 : Int} {B w : World} {os : List Ass} {rs : List Ro} (H : confidantref5_Pushes.f K a0 = some c0) (hS : St B w (os) (rs)) :
  Calls Tryd.prog 14 [ia a0].toArray w (fun en w' => ∃ v, en = .returned v ∧ v = ia c0 ∧ St B w' (os) (rs)) := by
 unfold confidantref5_Pushes.f at H
 refine calls_of_EW (args := [ia a0]) (c := Cd14) 23 Tryd.func14 (by kernel_rfl) (by kernel_rfl) (by kernel_rfl) ?_
 refine EW.sq (by kernel_rfl) ?_
 refine EW.rg (by kernel_rfl) ?_
 refine EL.quick 1 [0] [(0, ia a0)] (by kernel_rfl) ?_
 refine EL.done (by kernel_rfl) ?_
 refine EQ.code ?_
 refine EW.sq (by kernel_rfl) ?_
 refine EW.sq (by kernel_rfl) ?_
 refine EW.rg (by kernel_rfl) ?_
 refine EL.quick 1 [3] [(3, ia a0)] (by kernel_rfl) ?_
 refine EL.done (by kernel_rfl) ?_
 refine EQ.code ?_
 refine EW.bl 0 (by kernel_rfl) ?_
 obtain ⟨a1, c3, H⟩ := lt_out H
 refine EW.ct (fun a w => ∃ a2 : Bool, Sat 23 [(3, ia a0), (4, .bool (a2))] a ∧ St B w (os) (rs) ∧ a1 a2 = some c0) (by kernel_rfl) ?_ (fun a w hI => ?_)
 ·refine EW.sq (by kernel_rfl) ?_
  refine EW.rg (by kernel_rfl) ?_
  refine EL.quick 2 [3, 4] [(3, ia a0), (4, .bool (decide (a0 = 1)))] (by kernel_rfl) ?_
  refine EL.done (by kernel_rfl) ?_
  refine EQ.code ?_
  refine EW.cdP (a0 = 1) (by kernel_rfl) (by kernel_rfl) (fun a4 => ?_) (fun a4 => ?_)
  ·rw [if_pos a4] at H
   refine EW.keep [3, 4] [(3, ia a0), (4, .bool (decide (a0 = 1)))] (by kernel_rfl) ?_
   refine EW.as' [(3, ia a0), (4, .bool (true))] (by simp only [dec_t a4, Bool.not_true, Bool.not_false]) ?_
   refine EW.skip (by kernel_rfl) ?_
   refine EQ.to ?_
   refine EQ.keep [3, 4] [(3, ia a0), (4, .bool (true))] (by kernel_rfl) ?_
   exact fun a ha => ⟨true, ha, (hS.re [] [] rfl (sub_self)), H⟩
  rw [if_neg a4] at H
  refine EW.sq (by kernel_rfl) ?_
  refine EW.rg (by kernel_rfl) ?_
  refine EL.quick 2 [3, 4] [(3, ia a0), (4, .bool (decide (a0 = 4)))] (by kernel_rfl) ?_
  refine EL.done (by kernel_rfl) ?_
  refine EQ.code ?_
  refine EW.cdP (a0 = 4) (by kernel_rfl) (by kernel_rfl) (fun a5 => ?_) (fun a5 => ?_)
  ·rw [if_pos a5] at H
   refine EW.keep [3, 4] [(3, ia a0), (4, .bool (decide (a0 = 4)))] (by kernel_rfl) ?_
   refine EW.as' [(3, ia a0), (4, .bool (true))] (by simp only [dec_t a5, Bool.not_true, Bool.not_false]) ?_
   refine EW.skip (by kernel_rfl) ?_
   refine EQ.to ?_
   refine EQ.keep [3, 4] [(3, ia a0), (4, .bool (true))] (by kernel_rfl) ?_
   exact fun a ha => ⟨true, ha, (hS.re [] [] rfl (sub_self)), H⟩
  rw [if_neg a5] at H
  refine EW.sq (by kernel_rfl) ?_
  refine EW.rg (by kernel_rfl) ?_
  refine EL.quick 2 [3, 4] [(3, ia a0), (4, .bool (decide (a0 = 5)))] (by kernel_rfl) ?_
  refine EL.done (by kernel_rfl) ?_
  refine EQ.code ?_
  refine EW.cdP (a0 = 5) (by kernel_rfl) (by kernel_rfl) (fun a6 => ?_) (fun a6 => ?_)
  ·rw [if_pos a6] at H
   refine EW.keep [3, 4] [(3, ia a0), (4, .bool (decide (a0 = 5)))] (by kernel_rfl) ?_
   refine EW.as' [(3, ia a0), (4, .bool (true))] (by simp only [dec_t a6, Bool.not_true, Bool.not_false]) ?_
   refine EW.skip (by kernel_rfl) ?_
   refine EQ.to ?_
   refine EQ.keep [3, 4] [(3, ia a0), (4, .bool (true))] (by kernel_rfl) ?_
   exact fun a ha => ⟨true, ha, (hS.re [] [] rfl (sub_self)), H⟩
  rw [if_neg a6] at H
  refine EW.sq (by kernel_rfl) ?_
  refine EW.rg (by kernel_rfl) ?_
  refine EL.quick 2 [3, 4] [(3, ia a0), (4, .bool (decide (a0 = 6)))] (by kernel_rfl) ?_
  refine EL.done (by kernel_rfl) ?_
  refine EQ.code ?_
  refine EW.cdP (a0 = 6) (by kernel_rfl) (by kernel_rfl) (fun a7 => ?_) (fun a7 => ?_)
  ·rw [if_pos a7] at H
   refine EW.keep [3, 4] [(3, ia a0), (4, .bool (decide (a0 = 6)))] (by kernel_rfl) ?_
   refine EW.as' [(3, ia a0), (4, .bool (true))] (by simp only [dec_t a7, Bool.not_true, Bool.not_false]) ?_
   refine EW.skip (by kernel_rfl) ?_
   refine EQ.to ?_
   refine EQ.keep [3, 4] [(3, ia a0), (4, .bool (true))] (by kernel_rfl) ?_
   exact fun a ha => ⟨true, ha, (hS.re [] [] rfl (sub_self)), H⟩
  rw [if_neg a7] at H
  refine EW.sq (by kernel_rfl) ?_
  refine EW.rg (by kernel_rfl) ?_
  refine EL.quick 2 [3, 4] [(3, ia a0), (4, .bool (decide (a0 = 7)))] (by kernel_rfl) ?_
  refine EL.done (by kernel_rfl) ?_
  refine EQ.code ?_
  refine EW.cdP (a0 = 7) (by kernel_rfl) (by kernel_rfl) (fun a8 => ?_) (fun a8 => ?_)
  ·rw [if_pos a8] at H
   refine EW.keep [3, 4] [(3, ia a0), (4, .bool (decide (a0 = 7)))] (by kernel_rfl) ?_
   refine EW.as' [(3, ia a0), (4, .bool (true))] (by simp only [dec_t a8, Bool.not_true, Bool.not_false]) ?_
   refine EW.skip (by kernel_rfl) ?_
   refine EQ.to ?_
   refine EQ.keep [3, 4] [(3, ia a0), (4, .bool (true))] (by kernel_rfl) ?_
   exact fun a ha => ⟨true, ha, (hS.re [] [] rfl (sub_self)), H⟩
  rw [if_neg a8] at H
  refine EW.sq (by kernel_rfl) ?_
  refine EW.rg (by kernel_rfl) ?_
  refine EL.quick 2 [3, 4] [(3, ia a0), (4, .bool (decide (a0 = 8)))] (by kernel_rfl) ?_
  refine EL.done (by kernel_rfl) ?_
  refine EQ.code ?_
  refine EW.cdP (a0 = 8) (by kernel_rfl) (by kernel_rfl) (fun a9 => ?_) (fun a9 => ?_)
  ·rw [if_pos a9] at H
   refine EW.keep [3, 4] [(3, ia a0), (4, .bool (decide (a0 = 8)))] (by kernel_rfl) ?_
   refine EW.as' [(3, ia a0), (4, .bool (true))] (by simp only [dec_t a9, Bool.not_true, Bool.not_false]) ?_
   refine EW.skip (by kernel_rfl) ?_
   refine EQ.to ?_
   refine EQ.keep [3, 4] [(3, ia a0), (4, .bool (true))] (by kernel_rfl) ?_
   exact fun a ha => ⟨true, ha, (hS.re [] [] rfl (sub_self)), H⟩
  rw [if_neg a9] at H
  refine EW.sq (by kernel_rfl) ?_
  refine EW.rg (by kernel_rfl) ?_
  refine EL.quick 2 [3, 4] [(3, ia a0), (4, .bool (decide (a0 = 9)))] (by kernel_rfl) ?_
  refine EL.done (by kernel_rfl) ?_
  refine EQ.code ?_
  refine EW.cdP (a0 = 9) (by kernel_rfl) (by kernel_rfl) (fun b0 => ?_) (fun b0 => ?_)
  ·rw [if_pos b0] at H
   refine EW.keep [3, 4] [(3, ia a0), (4, .bool (decide (a0 = 9)))] (by kernel_rfl) ?_
   refine EW.as' [(3, ia a0), (4, .bool (true))] (by simp only [dec_t b0, Bool.not_true, Bool.not_false]) ?_
   refine EW.skip (by kernel_rfl) ?_
   refine EQ.to ?_
   refine EQ.keep [3, 4] [(3, ia a0), (4, .bool (true))] (by kernel_rfl) ?_
   exact fun a ha => ⟨true, ha, (hS.re [] [] rfl (sub_self)), H⟩
  rw [if_neg b0] at H
  refine EW.sq (by kernel_rfl) ?_
  refine EW.rg (by kernel_rfl) ?_
  refine EL.quick 2 [3, 4] [(3, ia a0), (4, .bool (decide (a0 = 12)))] (by kernel_rfl) ?_
  refine EL.done (by kernel_rfl) ?_
  refine EQ.code ?_
  refine EW.cdP (a0 = 12) (by kernel_rfl) (by kernel_rfl) (fun b1 => ?_) (fun b1 => ?_)
  ·rw [if_pos b1] at H
   refine EW.keep [3, 4] [(3, ia a0), (4, .bool (decide (a0 = 12)))] (by kernel_rfl) ?_
   refine EW.as' [(3, ia a0), (4, .bool (true))] (by simp only [dec_t b1, Bool.not_true, Bool.not_false]) ?_
   refine EW.skip (by kernel_rfl) ?_
   refine EQ.to ?_
   refine EQ.keep [3, 4] [(3, ia a0), (4, .bool (true))] (by kernel_rfl) ?_
   exact fun a ha => ⟨true, ha, (hS.re [] [] rfl (sub_self)), H⟩
  rw [if_neg b1] at H
  refine EW.sq (by kernel_rfl) ?_
  refine EW.rg (by kernel_rfl) ?_
  refine EL.quick 2 [3, 4] [(3, ia a0), (4, .bool (decide (a0 = 14)))] (by kernel_rfl) ?_
  refine EL.done (by kernel_rfl) ?_
  refine EQ.code ?_
  refine EW.cdP (a0 = 14) (by kernel_rfl) (by kernel_rfl) (fun b2 => ?_) (fun b2 => ?_)
  ·rw [if_pos b2] at H
   refine EW.keep [3, 4] [(3, ia a0), (4, .bool (decide (a0 = 14)))] (by kernel_rfl) ?_
   refine EW.as' [(3, ia a0), (4, .bool (true))] (by simp only [dec_t b2, Bool.not_true, Bool.not_false]) ?_
   refine EW.skip (by kernel_rfl) ?_
   refine EQ.to ?_
   refine EQ.keep [3, 4] [(3, ia a0), (4, .bool (true))] (by kernel_rfl) ?_
   exact fun a ha => ⟨true, ha, (hS.re [] [] rfl (sub_self)), H⟩
  rw [if_neg b2] at H
  refine EW.sq (by kernel_rfl) ?_
  refine EW.rg (by kernel_rfl) ?_
  refine EL.quick 2 [3, 4] [(3, ia a0), (4, .bool (decide (a0 = 16)))] (by kernel_rfl) ?_
  refine EL.done (by kernel_rfl) ?_
  refine EQ.code ?_
  refine EW.cdP (a0 = 16) (by kernel_rfl) (by kernel_rfl) (fun b3 => ?_) (fun b3 => ?_)
  ·rw [if_pos b3] at H
   refine EW.keep [3, 4] [(3, ia a0), (4, .bool (decide (a0 = 16)))] (by kernel_rfl) ?_
   refine EW.as' [(3, ia a0), (4, .bool (true))] (by simp only [dec_t b3, Bool.not_true, Bool.not_false]) ?_
   refine EW.skip (by kernel_rfl) ?_
   refine EQ.to ?_
   refine EQ.keep [3, 4] [(3, ia a0), (4, .bool (true))] (by kernel_rfl) ?_
   exact fun a ha => ⟨true, ha, (hS.re [] [] rfl (sub_self)), H⟩
  rw [if_neg b3] at H
  refine EW.sq (by kernel_rfl) ?_
  refine EW.rg (by kernel_rfl) ?_
  refine EL.quick 2 [3, 4] [(3, ia a0), (4, .bool (decide (a0 = 17)))] (by kernel_rfl) ?_
  refine EL.done (by kernel_rfl) ?_
  refine EQ.code ?_
  refine EW.cdP (a0 = 17) (by kernel_rfl) (by kernel_rfl) (fun b4 => ?_) (fun b4 => ?_)
  ·rw [if_pos b4] at H
   refine EW.keep [3, 4] [(3, ia a0), (4, .bool (decide (a0 = 17)))] (by kernel_rfl) ?_
   refine EW.as' [(3, ia a0), (4, .bool (true))] (by simp only [dec_t b4, Bool.not_true, Bool.not_false]) ?_
   refine EW.skip (by kernel_rfl) ?_
   refine EQ.to ?_
   refine EQ.keep [3, 4] [(3, ia a0), (4, .bool (true))] (by kernel_rfl) ?_
   exact fun a ha => ⟨true, ha, (hS.re [] [] rfl (sub_self)), H⟩
  rw [if_neg b4] at H
  refine EW.sq (by kernel_rfl) ?_
  refine EW.rg (by kernel_rfl) ?_
  refine EL.quick 2 [3, 4] [(3, ia a0), (4, .bool (decide (a0 = 18)))] (by kernel_rfl) ?_
  refine EL.done (by kernel_rfl) ?_
  refine EQ.code ?_
  refine EW.cdP (a0 = 18) (by kernel_rfl) (by kernel_rfl) (fun b5 => ?_) (fun b5 => ?_)
  ·rw [if_pos b5] at H
   refine EW.keep [3, 4] [(3, ia a0), (4, .bool (decide (a0 = 18)))] (by kernel_rfl) ?_
   refine EW.as' [(3, ia a0), (4, .bool (true))] (by simp only [dec_t b5, Bool.not_true, Bool.not_false]) ?_
   refine EW.skip (by kernel_rfl) ?_
   refine EQ.to ?_
   refine EQ.keep [3, 4] [(3, ia a0), (4, .bool (true))] (by kernel_rfl) ?_
   exact fun a ha => ⟨true, ha, (hS.re [] [] rfl (sub_self)), H⟩
  rw [if_neg b5] at H
  refine EW.sq (by kernel_rfl) ?_
  refine EW.rg (by kernel_rfl) ?_
  refine EL.quick 2 [3, 4] [(3, ia a0), (4, .bool (decide (a0 = 20)))] (by kernel_rfl) ?_
  refine EL.done (by kernel_rfl) ?_
  refine EQ.code ?_
  refine EW.cdP (a0 = 20) (by kernel_rfl) (by kernel_rfl) (fun b6 => ?_) (fun b6 => ?_)
  ·rw [if_pos b6] at H
   refine EW.keep [3, 4] [(3, ia a0), (4, .bool (decide (a0 = 20)))] (by kernel_rfl) ?_
   refine EW.as' [(3, ia a0), (4, .bool (true))] (by simp only [dec_t b6, Bool.not_true, Bool.not_false]) ?_
   refine EW.skip (by kernel_rfl) ?_
   refine EQ.to ?_
   refine EQ.keep [3, 4] [(3, ia a0), (4, .bool (true))] (by kernel_rfl) ?_
   exact fun a ha => ⟨true, ha, (hS.re [] [] rfl (sub_self)), H⟩
  rw [if_neg b6] at H
  refine EW.sq (by kernel_rfl) ?_
  refine EW.rg (by kernel_rfl) ?_
  refine EL.quick 2 [3, 4] [(3, ia a0), (4, .bool (decide (a0 = 21)))] (by kernel_rfl) ?_
  refine EL.done (by kernel_rfl) ?_
  refine EQ.code ?_
  refine EW.cdP (a0 = 21) (by kernel_rfl) (by kernel_rfl) (fun b7 => ?_) (fun b7 => ?_)
  ·rw [if_pos b7] at H
   refine EW.keep [3, 4] [(3, ia a0), (4, .bool (decide (a0 = 21)))] (by kernel_rfl) ?_
   refine EW.as' [(3, ia a0), (4, .bool (true))] (by simp only [dec_t b7, Bool.not_true, Bool.not_false]) ?_
   refine EW.skip (by kernel_rfl) ?_
   refine EQ.to ?_
   refine EQ.keep [3, 4] [(3, ia a0), (4, .bool (true))] (by kernel_rfl) ?_
   exact fun a ha => ⟨true, ha, (hS.re [] [] rfl (sub_self)), H⟩
  rw [if_neg b7] at H
  refine EW.rg (by kernel_rfl) ?_
  refine EL.quick 2 [3, 4] [(3, ia a0), (4, .bool (decide (a0 = 23)))] (by kernel_rfl) ?_
  refine EL.done (by kernel_rfl) ?_
  refine EQ.to ?_
  refine EQ.keep [3, 4] [(3, ia a0), (4, .bool (decide (a0 = 23)))] (by kernel_rfl) ?_
  exact fun a ha => ⟨decide (a0 = 23), ha, (hS.re [] [] rfl (sub_self)), H⟩
 obtain ⟨a2, ha, hS, H⟩ := hI
 rw [c3] at H
 (try dsimp only at H)
 refine EW.at ?_ a ha
 clear ha a
 refine EW.cdP' (a2) (by kernel_rfl) (by kernel_rfl) (fun c1 => ?_) (fun c1 => ?_)
 ·rw [if_pos c1] at H
  refine EW.sq (by kernel_rfl) ?_
  refine EW.rg (by kernel_rfl) ?_
  refine EL.quick 1 [2] [(2, ia 1)] (by kernel_rfl) ?_
  refine EL.done (by kernel_rfl) ?_
  refine EQ.code ?_
  refine EW.ret (by kernel_rfl) ?_
  refine EQ.ret ?_
  refine EQ.ret ?_
  obtain rfl := Option.some.inj H
  exact EQ.leave (ia 1) (by kernel_rfl) ⟨_, rfl, rfl, (hS.re [] [] rfl (sub_self))⟩
 rw [if_neg c1] at H
 obtain ⟨b9, c4, H⟩ := lt_out H
 refine EW.ct (fun a w => ∃ a3 : Bool, Sat 23 [(20, .bool (a3))] a ∧ St B w (os) (rs) ∧ b9 a3 = some c0) (by kernel_rfl) ?_ (fun a w hI => ?_)
 ·refine EW.sq (by kernel_rfl) ?_
  refine EW.rg (by kernel_rfl) ?_
  refine EL.quick 2 [3, 20] [(3, ia a0), (20, .bool (decide (a0 = 3)))] (by kernel_rfl) ?_
  refine EL.done (by kernel_rfl) ?_
  refine EQ.code ?_
  refine EW.cdP (a0 = 3) (by kernel_rfl) (by kernel_rfl) (fun b8 => ?_) (fun b8 => ?_)
  ·rw [if_pos b8] at H
   refine EW.keep [20] [(20, .bool (decide (a0 = 3)))] (by kernel_rfl) ?_
   refine EW.as' [(20, .bool (true))] (by simp only [dec_t b8, Bool.not_true, Bool.not_false]) ?_
   refine EW.skip (by kernel_rfl) ?_
   refine EQ.to ?_
   refine EQ.keep [20] [(20, .bool (true))] (by kernel_rfl) ?_
   exact fun a ha => ⟨true, ha, (hS.re [] [] rfl (sub_self)), H⟩
  rw [if_neg b8] at H
  refine EW.rg (by kernel_rfl) ?_
  refine EL.quick 2 [20] [(20, .bool (decide (a0 = 24)))] (by kernel_rfl) ?_
  refine EL.done (by kernel_rfl) ?_
  refine EQ.to ?_
  refine EQ.keep [20] [(20, .bool (decide (a0 = 24)))] (by kernel_rfl) ?_
  exact fun a ha => ⟨decide (a0 = 24), ha, (hS.re [] [] rfl (sub_self)), H⟩
 obtain ⟨a3, ha, hS, H⟩ := hI
 rw [c4] at H
 (try dsimp only at H)
 refine EW.at ?_ a ha
 clear ha a
 refine EW.cdP' (a3) (by kernel_rfl) (by kernel_rfl) (fun c2 => ?_) (fun c2 => ?_)
 ·rw [if_pos c2] at H
  refine EW.sq (by kernel_rfl) ?_
  refine EW.rg (by kernel_rfl) ?_
  refine EL.quick 1 [2] [(2, ia 2)] (by kernel_rfl) ?_
  refine EL.done (by kernel_rfl) ?_
  refine EQ.code ?_
  refine EW.ret (by kernel_rfl) ?_
  refine EQ.ret ?_
  refine EQ.ret ?_
  obtain rfl := Option.some.inj H
  exact EQ.leave (ia 2) (by kernel_rfl) ⟨_, rfl, rfl, (hS.re [] [] rfl (sub_self))⟩
 rw [if_neg c2] at H
 refine EW.skip (by kernel_rfl) ?_
 refine EQ.pop ?_
 refine EQ.code ?_
 refine EW.sq (by kernel_rfl) ?_
 refine EW.rg (by kernel_rfl) ?_
 refine EL.quick 1 [2] [(2, ia 0)] (by kernel_rfl) ?_
 refine EL.done (by kernel_rfl) ?_
 refine EQ.code ?_
 refine EW.ret (by kernel_rfl) ?_
 obtain rfl := Option.some.inj H
 exact EQ.leave (ia 0) (by kernel_rfl) ⟨_, rfl, rfl, (hS.re [] [] rfl (sub_self))⟩

/-! ### confidant/confidantref5.Ends: function 16 -/
def confidantref5_Ends.f (K : Nat) (a0 : Int) : Option Bool := if a0 = 25 then (some true) else (some (decide (a0 = 26)))
set_option maxRecDepth 100000 in
theorem confidantref5_Ends.calls {K : Nat} {a0 : Int} {a2 : Bool} {B w : World} {os : List Ass} {rs : List Ro} (H : confidantref5_Ends.f K a0 = some a2) (hS : St B w (os) (rs)) :
  Calls Tryd.prog 16 [ia a0].toArray w (fun en w' => ∃ v, en = .returned v ∧ v = .bool (a2) ∧ St B w' (os) (rs)) := by
 unfold confidantref5_Ends.f at H
 refine calls_of_EW (args := [ia a0]) (c := Cd16) 9 Tryd.func16 (by kernel_rfl) (by kernel_rfl) (by kernel_rfl) ?_
 refine EW.sq (by kernel_rfl) ?_
 refine EW.rg (by kernel_rfl) ?_
 refine EL.quick 1 [0] [(0, ia a0)] (by kernel_rfl) ?_
 refine EL.done (by kernel_rfl) ?_
 refine EQ.code ?_
 refine EW.sq (by kernel_rfl) ?_
 refine EW.rg (by kernel_rfl) ?_
 refine EL.quick 3 [0, 5] [(0, ia a0), (5, .bool (decide (a0 = 25)))] (by kernel_rfl) ?_
 by_cases a1 : a0 = 25
 ·rw [if_pos a1] at H
  refine EL.keep [0, 5] [(0, ia a0), (5, .bool (decide (a0 = 25)))] (by kernel_rfl) ?_
  refine EL.as' [(0, ia a0), (5, .bool (true))] (by simp only [dec_t a1, Bool.not_true, Bool.not_false]) ?_
  refine EL.quick 4 [2] [(2, .bool (true))] (by kernel_rfl) ?_
  refine EL.done (by kernel_rfl) ?_
  refine EQ.code ?_
  refine EW.ret (by kernel_rfl) ?_
  obtain rfl := Option.some.inj H
  exact EQ.leave (.bool (true)) (by kernel_rfl) ⟨_, rfl, rfl, (hS.re [] [] rfl (sub_self))⟩
 rw [if_neg a1] at H
 refine EL.keep [0, 5] [(0, ia a0), (5, .bool (decide (a0 = 25)))] (by kernel_rfl) ?_
 refine EL.as' [(0, ia a0), (5, .bool (false))] (by simp only [dec_f a1, Bool.not_true, Bool.not_false]) ?_
 refine EL.quick 4 [2] [(2, .bool (decide (a0 = 26)))] (by kernel_rfl) ?_
 refine EL.done (by kernel_rfl) ?_
 refine EQ.code ?_
 refine EW.ret (by kernel_rfl) ?_
 obtain rfl := Option.some.inj H
 exact EQ.leave (.bool (decide (a0 = 26))) (by kernel_rfl) ⟨_, rfl, rfl, (hS.re [] [] rfl (sub_self))⟩

/-! ### confidant/confidantref5.names: function 23 -/
def confidantref5_names.f (K : Nat)  : Option (List ByteArray) := lt ([(⟨#[112, 117, 115, 104]⟩ : ByteArray), (⟨#[112, 111, 112]⟩ : ByteArray), (⟨#[100, 117, 112]⟩ : ByteArray), (⟨#[97, 100, 100]⟩ : ByteArray), (⟨#[115, 117, 98]⟩ : ByteArray), (⟨#[109, 117, 108]⟩ : ByteArray), (⟨#[100, 105, 118]⟩ : ByteArray), (⟨#[108, 101, 115, 115]⟩ : ByteArray), (⟨#[101, 113]⟩ : ByteArray), (⟨#[106, 117, 109, 112]⟩ : ByteArray), (⟨#[106, 117, 109, 112, 122]⟩ : ByteArray), (⟨#[108, 111, 97, 100]⟩ : ByteArray), (⟨#[115, 116, 111, 114, 101]⟩ : ByteArray), (⟨#[108, 97, 98, 101, 108]⟩ : ByteArray), (⟨#[114, 97, 105, 115, 101]⟩ : ByteArray), (⟨#[105, 110, 112, 117, 116]⟩ : ByteArray), (⟨#[110, 101, 119]⟩ : ByteArray), (⟨#[114, 101, 97, 100]⟩ : ByteArray), (⟨#[119, 114, 105, 116, 101]⟩ : ByteArray), (⟨#[102, 111, 114, 107]⟩ : ByteArray), (⟨#[119, 97, 105, 116]⟩ : ByteArray), (⟨#[101, 109, 105, 116]⟩ : ByteArray), (⟨#[114, 101, 108, 101, 97, 115, 101]⟩ : ByteArray), (⟨#[116, 97, 107, 101]⟩ : ByteArray), (⟨#[114, 101, 116]⟩ : ByteArray), (⟨#[102, 97, 105, 108]⟩ : ByteArray)] : List ByteArray) fun a0 => (some a0)
set_option maxRecDepth 100000 in
theorem confidantref5_names.calls {K : Nat} {a2 : List ByteArray} {B w : World} {os : List Ass} {rs : List Ro} (H : confidantref5_names.f K = some a2) (hS : St B w (os) (rs)) :
  Calls Tryd.prog 23 [].toArray w (fun en w' => ∃ v, en = .returned v ∧ ∃ a3 : Option Addr, ∃ a4 : Nat, v = sv a3 a4 a2 ∧ St B w' (Ass.own 9 Kd.str a3 a4 a2 :: os) (rs)) := by
 unfold confidantref5_names.f at H
 refine calls_of_EW (args := []) (c := Cd23) 2 Tryd.func23 (by kernel_rfl) (by kernel_rfl) (by kernel_rfl) ?_
 refine EW.sq (by kernel_rfl) ?_
 refine EW.rg (by kernel_rfl) ?_
 refine EL.quick 1 [] [] (by kernel_rfl) ?_
 refine EL.done (by kernel_rfl) ?_
 refine EQ.code ?_
 refine EW.sq (by kernel_rfl) ?_
 refine EW.rg (by kernel_rfl) ?_
 obtain ⟨a0, a5, H⟩ := lt_out H
 refine EL.of (EO.lit hS Kd.str 9 36 26 #[(0, .string (⟨#[112, 117, 115, 104]⟩ : ByteArray)), (1, .string (⟨#[112, 111, 112]⟩ : ByteArray)), (2, .string (⟨#[100, 117, 112]⟩ : ByteArray)), (3, .string (⟨#[97, 100, 100]⟩ : ByteArray)), (4, .string (⟨#[115, 117, 98]⟩ : ByteArray)), (5, .string (⟨#[109, 117, 108]⟩ : ByteArray)), (6, .string (⟨#[100, 105, 118]⟩ : ByteArray)), (7, .string (⟨#[108, 101, 115, 115]⟩ : ByteArray)), (8, .string (⟨#[101, 113]⟩ : ByteArray)), (9, .string (⟨#[106, 117, 109, 112]⟩ : ByteArray)), (10, .string (⟨#[106, 117, 109, 112, 122]⟩ : ByteArray)), (11, .string (⟨#[108, 111, 97, 100]⟩ : ByteArray)), (12, .string (⟨#[115, 116, 111, 114, 101]⟩ : ByteArray)), (13, .string (⟨#[108, 97, 98, 101, 108]⟩ : ByteArray)), (14, .string (⟨#[114, 97, 105, 115, 101]⟩ : ByteArray)), (15, .string (⟨#[105, 110, 112, 117, 116]⟩ : ByteArray)), (16, .string (⟨#[110, 101, 119]⟩ : ByteArray)), (17, .string (⟨#[114, 101, 97, 100]⟩ : ByteArray)), (18, .string (⟨#[119, 114, 105, 116, 101]⟩ : ByteArray)), (19, .string (⟨#[102, 111, 114, 107]⟩ : ByteArray)), (20, .string (⟨#[119, 97, 105, 116]⟩ : ByteArray)), (21, .string (⟨#[101, 109, 105, 116]⟩ : ByteArray)), (22, .string (⟨#[114, 101, 108, 101, 97, 115, 101]⟩ : ByteArray)), (23, .string (⟨#[116, 97, 107, 101]⟩ : ByteArray)), (24, .string (⟨#[114, 101, 116]⟩ : ByteArray)), (25, .string (⟨#[102, 97, 105, 108]⟩ : ByteArray))] [.string (⟨#[112, 117, 115, 104]⟩ : ByteArray), .string (⟨#[112, 111, 112]⟩ : ByteArray), .string (⟨#[100, 117, 112]⟩ : ByteArray), .string (⟨#[97, 100, 100]⟩ : ByteArray), .string (⟨#[115, 117, 98]⟩ : ByteArray), .string (⟨#[109, 117, 108]⟩ : ByteArray), .string (⟨#[100, 105, 118]⟩ : ByteArray), .string (⟨#[108, 101, 115, 115]⟩ : ByteArray), .string (⟨#[101, 113]⟩ : ByteArray), .string (⟨#[106, 117, 109, 112]⟩ : ByteArray), .string (⟨#[106, 117, 109, 112, 122]⟩ : ByteArray), .string (⟨#[108, 111, 97, 100]⟩ : ByteArray), .string (⟨#[115, 116, 111, 114, 101]⟩ : ByteArray), .string (⟨#[108, 97, 98, 101, 108]⟩ : ByteArray), .string (⟨#[114, 97, 105, 115, 101]⟩ : ByteArray), .string (⟨#[105, 110, 112, 117, 116]⟩ : ByteArray), .string (⟨#[110, 101, 119]⟩ : ByteArray), .string (⟨#[114, 101, 97, 100]⟩ : ByteArray), .string (⟨#[119, 114, 105, 116, 101]⟩ : ByteArray), .string (⟨#[102, 111, 114, 107]⟩ : ByteArray), .string (⟨#[119, 97, 105, 116]⟩ : ByteArray), .string (⟨#[101, 109, 105, 116]⟩ : ByteArray), .string (⟨#[114, 101, 108, 101, 97, 115, 101]⟩ : ByteArray), .string (⟨#[116, 97, 107, 101]⟩ : ByteArray), .string (⟨#[114, 101, 116]⟩ : ByteArray), .string (⟨#[102, 97, 105, 108]⟩ : ByteArray)] a0 1 (by kernel_rfl) (by kernel_rfl) (by kernel_rfl) (fun _ => (by kernel_rfl)) (by rw [a5]; rfl) (by kernel_rfl) (fun w G hr => (by rw [a5]; exact ⟨[.string (⟨#[112, 117, 115, 104]⟩ : ByteArray)], [.string (⟨#[112, 111, 112]⟩ : ByteArray), .string (⟨#[100, 117, 112]⟩ : ByteArray), .string (⟨#[97, 100, 100]⟩ : ByteArray), .string (⟨#[115, 117, 98]⟩ : ByteArray), .string (⟨#[109, 117, 108]⟩ : ByteArray), .string (⟨#[100, 105, 118]⟩ : ByteArray), .string (⟨#[108, 101, 115, 115]⟩ : ByteArray), .string (⟨#[101, 113]⟩ : ByteArray), .string (⟨#[106, 117, 109, 112]⟩ : ByteArray), .string (⟨#[106, 117, 109, 112, 122]⟩ : ByteArray), .string (⟨#[108, 111, 97, 100]⟩ : ByteArray), .string (⟨#[115, 116, 111, 114, 101]⟩ : ByteArray), .string (⟨#[108, 97, 98, 101, 108]⟩ : ByteArray), .string (⟨#[114, 97, 105, 115, 101]⟩ : ByteArray), .string (⟨#[105, 110, 112, 117, 116]⟩ : ByteArray), .string (⟨#[110, 101, 119]⟩ : ByteArray), .string (⟨#[114, 101, 97, 100]⟩ : ByteArray), .string (⟨#[119, 114, 105, 116, 101]⟩ : ByteArray), .string (⟨#[102, 111, 114, 107]⟩ : ByteArray), .string (⟨#[119, 97, 105, 116]⟩ : ByteArray), .string (⟨#[101, 109, 105, 116]⟩ : ByteArray), .string (⟨#[114, 101, 108, 101, 97, 115, 101]⟩ : ByteArray), .string (⟨#[116, 97, 107, 101]⟩ : ByteArray), .string (⟨#[114, 101, 116]⟩ : ByteArray), .string (⟨#[102, 97, 105, 108]⟩ : ByteArray)], rfl, rfl, ⟨[.string (⟨#[112, 111, 112]⟩ : ByteArray)], [.string (⟨#[100, 117, 112]⟩ : ByteArray), .string (⟨#[97, 100, 100]⟩ : ByteArray), .string (⟨#[115, 117, 98]⟩ : ByteArray), .string (⟨#[109, 117, 108]⟩ : ByteArray), .string (⟨#[100, 105, 118]⟩ : ByteArray), .string (⟨#[108, 101, 115, 115]⟩ : ByteArray), .string (⟨#[101, 113]⟩ : ByteArray), .string (⟨#[106, 117, 109, 112]⟩ : ByteArray), .string (⟨#[106, 117, 109, 112, 122]⟩ : ByteArray), .string (⟨#[108, 111, 97, 100]⟩ : ByteArray), .string (⟨#[115, 116, 111, 114, 101]⟩ : ByteArray), .string (⟨#[108, 97, 98, 101, 108]⟩ : ByteArray), .string (⟨#[114, 97, 105, 115, 101]⟩ : ByteArray), .string (⟨#[105, 110, 112, 117, 116]⟩ : ByteArray), .string (⟨#[110, 101, 119]⟩ : ByteArray), .string (⟨#[114, 101, 97, 100]⟩ : ByteArray), .string (⟨#[119, 114, 105, 116, 101]⟩ : ByteArray), .string (⟨#[102, 111, 114, 107]⟩ : ByteArray), .string (⟨#[119, 97, 105, 116]⟩ : ByteArray), .string (⟨#[101, 109, 105, 116]⟩ : ByteArray), .string (⟨#[114, 101, 108, 101, 97, 115, 101]⟩ : ByteArray), .string (⟨#[116, 97, 107, 101]⟩ : ByteArray), .string (⟨#[114, 101, 116]⟩ : ByteArray), .string (⟨#[102, 97, 105, 108]⟩ : ByteArray)], rfl, rfl, ⟨[.string (⟨#[100, 117, 112]⟩ : ByteArray)], [.string (⟨#[97, 100, 100]⟩ : ByteArray), .string (⟨#[115, 117, 98]⟩ : ByteArray), .string (⟨#[109, 117, 108]⟩ : ByteArray), .string (⟨#[100, 105, 118]⟩ : ByteArray), .string (⟨#[108, 101, 115, 115]⟩ : ByteArray), .string (⟨#[101, 113]⟩ : ByteArray), .string (⟨#[106, 117, 109, 112]⟩ : ByteArray), .string (⟨#[106, 117, 109, 112, 122]⟩ : ByteArray), .string (⟨#[108, 111, 97, 100]⟩ : ByteArray), .string (⟨#[115, 116, 111, 114, 101]⟩ : ByteArray), .string (⟨#[108, 97, 98, 101, 108]⟩ : ByteArray), .string (⟨#[114, 97, 105, 115, 101]⟩ : ByteArray), .string (⟨#[105, 110, 112, 117, 116]⟩ : ByteArray), .string (⟨#[110, 101, 119]⟩ : ByteArray), .string (⟨#[114, 101, 97, 100]⟩ : ByteArray), .string (⟨#[119, 114, 105, 116, 101]⟩ : ByteArray), .string (⟨#[102, 111, 114, 107]⟩ : ByteArray), .string (⟨#[119, 97, 105, 116]⟩ : ByteArray), .string (⟨#[101, 109, 105, 116]⟩ : ByteArray), .string (⟨#[114, 101, 108, 101, 97, 115, 101]⟩ : ByteArray), .string (⟨#[116, 97, 107, 101]⟩ : ByteArray), .string (⟨#[114, 101, 116]⟩ : ByteArray), .string (⟨#[102, 97, 105, 108]⟩ : ByteArray)], rfl, rfl, ⟨[.string (⟨#[97, 100, 100]⟩ : ByteArray)], [.string (⟨#[115, 117, 98]⟩ : ByteArray), .string (⟨#[109, 117, 108]⟩ : ByteArray), .string (⟨#[100, 105, 118]⟩ : ByteArray), .string (⟨#[108, 101, 115, 115]⟩ : ByteArray), .string (⟨#[101, 113]⟩ : ByteArray), .string (⟨#[106, 117, 109, 112]⟩ : ByteArray), .string (⟨#[106, 117, 109, 112, 122]⟩ : ByteArray), .string (⟨#[108, 111, 97, 100]⟩ : ByteArray), .string (⟨#[115, 116, 111, 114, 101]⟩ : ByteArray), .string (⟨#[108, 97, 98, 101, 108]⟩ : ByteArray), .string (⟨#[114, 97, 105, 115, 101]⟩ : ByteArray), .string (⟨#[105, 110, 112, 117, 116]⟩ : ByteArray), .string (⟨#[110, 101, 119]⟩ : ByteArray), .string (⟨#[114, 101, 97, 100]⟩ : ByteArray), .string (⟨#[119, 114, 105, 116, 101]⟩ : ByteArray), .string (⟨#[102, 111, 114, 107]⟩ : ByteArray), .string (⟨#[119, 97, 105, 116]⟩ : ByteArray), .string (⟨#[101, 109, 105, 116]⟩ : ByteArray), .string (⟨#[114, 101, 108, 101, 97, 115, 101]⟩ : ByteArray), .string (⟨#[116, 97, 107, 101]⟩ : ByteArray), .string (⟨#[114, 101, 116]⟩ : ByteArray), .string (⟨#[102, 97, 105, 108]⟩ : ByteArray)], rfl, rfl, ⟨[.string (⟨#[115, 117, 98]⟩ : ByteArray)], [.string (⟨#[109, 117, 108]⟩ : ByteArray), .string (⟨#[100, 105, 118]⟩ : ByteArray), .string (⟨#[108, 101, 115, 115]⟩ : ByteArray), .string (⟨#[101, 113]⟩ : ByteArray), .string (⟨#[106, 117, 109, 112]⟩ : ByteArray), .string (⟨#[106, 117, 109, 112, 122]⟩ : ByteArray), .string (⟨#[108, 111, 97, 100]⟩ : ByteArray), .string (⟨#[115, 116, 111, 114, 101]⟩ : ByteArray), .string (⟨#[108, 97, 98, 101, 108]⟩ : ByteArray), .string (⟨#[114, 97, 105, 115, 101]⟩ : ByteArray), .string (⟨#[105, 110, 112, 117, 116]⟩ : ByteArray), .string (⟨#[110, 101, 119]⟩ : ByteArray), .string (⟨#[114, 101, 97, 100]⟩ : ByteArray), .string (⟨#[119, 114, 105, 116, 101]⟩ : ByteArray), .string (⟨#[102, 111, 114, 107]⟩ : ByteArray), .string (⟨#[119, 97, 105, 116]⟩ : ByteArray), .string (⟨#[101, 109, 105, 116]⟩ : ByteArray), .string (⟨#[114, 101, 108, 101, 97, 115, 101]⟩ : ByteArray), .string (⟨#[116, 97, 107, 101]⟩ : ByteArray), .string (⟨#[114, 101, 116]⟩ : ByteArray), .string (⟨#[102, 97, 105, 108]⟩ : ByteArray)], rfl, rfl, ⟨[.string (⟨#[109, 117, 108]⟩ : ByteArray)], [.string (⟨#[100, 105, 118]⟩ : ByteArray), .string (⟨#[108, 101, 115, 115]⟩ : ByteArray), .string (⟨#[101, 113]⟩ : ByteArray), .string (⟨#[106, 117, 109, 112]⟩ : ByteArray), .string (⟨#[106, 117, 109, 112, 122]⟩ : ByteArray), .string (⟨#[108, 111, 97, 100]⟩ : ByteArray), .string (⟨#[115, 116, 111, 114, 101]⟩ : ByteArray), .string (⟨#[108, 97, 98, 101, 108]⟩ : ByteArray), .string (⟨#[114, 97, 105, 115, 101]⟩ : ByteArray), .string (⟨#[105, 110, 112, 117, 116]⟩ : ByteArray), .string (⟨#[110, 101, 119]⟩ : ByteArray), .string (⟨#[114, 101, 97, 100]⟩ : ByteArray), .string (⟨#[119, 114, 105, 116, 101]⟩ : ByteArray), .string (⟨#[102, 111, 114, 107]⟩ : ByteArray), .string (⟨#[119, 97, 105, 116]⟩ : ByteArray), .string (⟨#[101, 109, 105, 116]⟩ : ByteArray), .string (⟨#[114, 101, 108, 101, 97, 115, 101]⟩ : ByteArray), .string (⟨#[116, 97, 107, 101]⟩ : ByteArray), .string (⟨#[114, 101, 116]⟩ : ByteArray), .string (⟨#[102, 97, 105, 108]⟩ : ByteArray)], rfl, rfl, ⟨[.string (⟨#[100, 105, 118]⟩ : ByteArray)], [.string (⟨#[108, 101, 115, 115]⟩ : ByteArray), .string (⟨#[101, 113]⟩ : ByteArray), .string (⟨#[106, 117, 109, 112]⟩ : ByteArray), .string (⟨#[106, 117, 109, 112, 122]⟩ : ByteArray), .string (⟨#[108, 111, 97, 100]⟩ : ByteArray), .string (⟨#[115, 116, 111, 114, 101]⟩ : ByteArray), .string (⟨#[108, 97, 98, 101, 108]⟩ : ByteArray), .string (⟨#[114, 97, 105, 115, 101]⟩ : ByteArray), .string (⟨#[105, 110, 112, 117, 116]⟩ : ByteArray), .string (⟨#[110, 101, 119]⟩ : ByteArray), .string (⟨#[114, 101, 97, 100]⟩ : ByteArray), .string (⟨#[119, 114, 105, 116, 101]⟩ : ByteArray), .string (⟨#[102, 111, 114, 107]⟩ : ByteArray), .string (⟨#[119, 97, 105, 116]⟩ : ByteArray), .string (⟨#[101, 109, 105, 116]⟩ : ByteArray), .string (⟨#[114, 101, 108, 101, 97, 115, 101]⟩ : ByteArray), .string (⟨#[116, 97, 107, 101]⟩ : ByteArray), .string (⟨#[114, 101, 116]⟩ : ByteArray), .string (⟨#[102, 97, 105, 108]⟩ : ByteArray)], rfl, rfl, ⟨[.string (⟨#[108, 101, 115, 115]⟩ : ByteArray)], [.string (⟨#[101, 113]⟩ : ByteArray), .string (⟨#[106, 117, 109, 112]⟩ : ByteArray), .string (⟨#[106, 117, 109, 112, 122]⟩ : ByteArray), .string (⟨#[108, 111, 97, 100]⟩ : ByteArray), .string (⟨#[115, 116, 111, 114, 101]⟩ : ByteArray), .string (⟨#[108, 97, 98, 101, 108]⟩ : ByteArray), .string (⟨#[114, 97, 105, 115, 101]⟩ : ByteArray), .string (⟨#[105, 110, 112, 117, 116]⟩ : ByteArray), .string (⟨#[110, 101, 119]⟩ : ByteArray), .string (⟨#[114, 101, 97, 100]⟩ : ByteArray), .string (⟨#[119, 114, 105, 116, 101]⟩ : ByteArray), .string (⟨#[102, 111, 114, 107]⟩ : ByteArray), .string (⟨#[119, 97, 105, 116]⟩ : ByteArray), .string (⟨#[101, 109, 105, 116]⟩ : ByteArray), .string (⟨#[114, 101, 108, 101, 97, 115, 101]⟩ : ByteArray), .string (⟨#[116, 97, 107, 101]⟩ : ByteArray), .string (⟨#[114, 101, 116]⟩ : ByteArray), .string (⟨#[102, 97, 105, 108]⟩ : ByteArray)], rfl, rfl, ⟨[.string (⟨#[101, 113]⟩ : ByteArray)], [.string (⟨#[106, 117, 109, 112]⟩ : ByteArray), .string (⟨#[106, 117, 109, 112, 122]⟩ : ByteArray), .string (⟨#[108, 111, 97, 100]⟩ : ByteArray), .string (⟨#[115, 116, 111, 114, 101]⟩ : ByteArray), .string (⟨#[108, 97, 98, 101, 108]⟩ : ByteArray), .string (⟨#[114, 97, 105, 115, 101]⟩ : ByteArray), .string (⟨#[105, 110, 112, 117, 116]⟩ : ByteArray), .string (⟨#[110, 101, 119]⟩ : ByteArray), .string (⟨#[114, 101, 97, 100]⟩ : ByteArray), .string (⟨#[119, 114, 105, 116, 101]⟩ : ByteArray), .string (⟨#[102, 111, 114, 107]⟩ : ByteArray), .string (⟨#[119, 97, 105, 116]⟩ : ByteArray), .string (⟨#[101, 109, 105, 116]⟩ : ByteArray), .string (⟨#[114, 101, 108, 101, 97, 115, 101]⟩ : ByteArray), .string (⟨#[116, 97, 107, 101]⟩ : ByteArray), .string (⟨#[114, 101, 116]⟩ : ByteArray), .string (⟨#[102, 97, 105, 108]⟩ : ByteArray)], rfl, rfl, ⟨[.string (⟨#[106, 117, 109, 112]⟩ : ByteArray)], [.string (⟨#[106, 117, 109, 112, 122]⟩ : ByteArray), .string (⟨#[108, 111, 97, 100]⟩ : ByteArray), .string (⟨#[115, 116, 111, 114, 101]⟩ : ByteArray), .string (⟨#[108, 97, 98, 101, 108]⟩ : ByteArray), .string (⟨#[114, 97, 105, 115, 101]⟩ : ByteArray), .string (⟨#[105, 110, 112, 117, 116]⟩ : ByteArray), .string (⟨#[110, 101, 119]⟩ : ByteArray), .string (⟨#[114, 101, 97, 100]⟩ : ByteArray), .string (⟨#[119, 114, 105, 116, 101]⟩ : ByteArray), .string (⟨#[102, 111, 114, 107]⟩ : ByteArray), .string (⟨#[119, 97, 105, 116]⟩ : ByteArray), .string (⟨#[101, 109, 105, 116]⟩ : ByteArray), .string (⟨#[114, 101, 108, 101, 97, 115, 101]⟩ : ByteArray), .string (⟨#[116, 97, 107, 101]⟩ : ByteArray), .string (⟨#[114, 101, 116]⟩ : ByteArray), .string (⟨#[102, 97, 105, 108]⟩ : ByteArray)], rfl, rfl, ⟨[.string (⟨#[106, 117, 109, 112, 122]⟩ : ByteArray)], [.string (⟨#[108, 111, 97, 100]⟩ : ByteArray), .string (⟨#[115, 116, 111, 114, 101]⟩ : ByteArray), .string (⟨#[108, 97, 98, 101, 108]⟩ : ByteArray), .string (⟨#[114, 97, 105, 115, 101]⟩ : ByteArray), .string (⟨#[105, 110, 112, 117, 116]⟩ : ByteArray), .string (⟨#[110, 101, 119]⟩ : ByteArray), .string (⟨#[114, 101, 97, 100]⟩ : ByteArray), .string (⟨#[119, 114, 105, 116, 101]⟩ : ByteArray), .string (⟨#[102, 111, 114, 107]⟩ : ByteArray), .string (⟨#[119, 97, 105, 116]⟩ : ByteArray), .string (⟨#[101, 109, 105, 116]⟩ : ByteArray), .string (⟨#[114, 101, 108, 101, 97, 115, 101]⟩ : ByteArray), .string (⟨#[116, 97, 107, 101]⟩ : ByteArray), .string (⟨#[114, 101, 116]⟩ : ByteArray), .string (⟨#[102, 97, 105, 108]⟩ : ByteArray)], rfl, rfl, ⟨[.string (⟨#[108, 111, 97, 100]⟩ : ByteArray)], [.string (⟨#[115, 116, 111, 114, 101]⟩ : ByteArray), .string (⟨#[108, 97, 98, 101, 108]⟩ : ByteArray), .string (⟨#[114, 97, 105, 115, 101]⟩ : ByteArray), .string (⟨#[105, 110, 112, 117, 116]⟩ : ByteArray), .string (⟨#[110, 101, 119]⟩ : ByteArray), .string (⟨#[114, 101, 97, 100]⟩ : ByteArray), .string (⟨#[119, 114, 105, 116, 101]⟩ : ByteArray), .string (⟨#[102, 111, 114, 107]⟩ : ByteArray), .string (⟨#[119, 97, 105, 116]⟩ : ByteArray), .string (⟨#[101, 109, 105, 116]⟩ : ByteArray), .string (⟨#[114, 101, 108, 101, 97, 115, 101]⟩ : ByteArray), .string (⟨#[116, 97, 107, 101]⟩ : ByteArray), .string (⟨#[114, 101, 116]⟩ : ByteArray), .string (⟨#[102, 97, 105, 108]⟩ : ByteArray)], rfl, rfl, ⟨[.string (⟨#[115, 116, 111, 114, 101]⟩ : ByteArray)], [.string (⟨#[108, 97, 98, 101, 108]⟩ : ByteArray), .string (⟨#[114, 97, 105, 115, 101]⟩ : ByteArray), .string (⟨#[105, 110, 112, 117, 116]⟩ : ByteArray), .string (⟨#[110, 101, 119]⟩ : ByteArray), .string (⟨#[114, 101, 97, 100]⟩ : ByteArray), .string (⟨#[119, 114, 105, 116, 101]⟩ : ByteArray), .string (⟨#[102, 111, 114, 107]⟩ : ByteArray), .string (⟨#[119, 97, 105, 116]⟩ : ByteArray), .string (⟨#[101, 109, 105, 116]⟩ : ByteArray), .string (⟨#[114, 101, 108, 101, 97, 115, 101]⟩ : ByteArray), .string (⟨#[116, 97, 107, 101]⟩ : ByteArray), .string (⟨#[114, 101, 116]⟩ : ByteArray), .string (⟨#[102, 97, 105, 108]⟩ : ByteArray)], rfl, rfl, ⟨[.string (⟨#[108, 97, 98, 101, 108]⟩ : ByteArray)], [.string (⟨#[114, 97, 105, 115, 101]⟩ : ByteArray), .string (⟨#[105, 110, 112, 117, 116]⟩ : ByteArray), .string (⟨#[110, 101, 119]⟩ : ByteArray), .string (⟨#[114, 101, 97, 100]⟩ : ByteArray), .string (⟨#[119, 114, 105, 116, 101]⟩ : ByteArray), .string (⟨#[102, 111, 114, 107]⟩ : ByteArray), .string (⟨#[119, 97, 105, 116]⟩ : ByteArray), .string (⟨#[101, 109, 105, 116]⟩ : ByteArray), .string (⟨#[114, 101, 108, 101, 97, 115, 101]⟩ : ByteArray), .string (⟨#[116, 97, 107, 101]⟩ : ByteArray), .string (⟨#[114, 101, 116]⟩ : ByteArray), .string (⟨#[102, 97, 105, 108]⟩ : ByteArray)], rfl, rfl, ⟨[.string (⟨#[114, 97, 105, 115, 101]⟩ : ByteArray)], [.string (⟨#[105, 110, 112, 117, 116]⟩ : ByteArray), .string (⟨#[110, 101, 119]⟩ : ByteArray), .string (⟨#[114, 101, 97, 100]⟩ : ByteArray), .string (⟨#[119, 114, 105, 116, 101]⟩ : ByteArray), .string (⟨#[102, 111, 114, 107]⟩ : ByteArray), .string (⟨#[119, 97, 105, 116]⟩ : ByteArray), .string (⟨#[101, 109, 105, 116]⟩ : ByteArray), .string (⟨#[114, 101, 108, 101, 97, 115, 101]⟩ : ByteArray), .string (⟨#[116, 97, 107, 101]⟩ : ByteArray), .string (⟨#[114, 101, 116]⟩ : ByteArray), .string (⟨#[102, 97, 105, 108]⟩ : ByteArray)], rfl, rfl, ⟨[.string (⟨#[105, 110, 112, 117, 116]⟩ : ByteArray)], [.string (⟨#[110, 101, 119]⟩ : ByteArray), .string (⟨#[114, 101, 97, 100]⟩ : ByteArray), .string (⟨#[119, 114, 105, 116, 101]⟩ : ByteArray), .string (⟨#[102, 111, 114, 107]⟩ : ByteArray), .string (⟨#[119, 97, 105, 116]⟩ : ByteArray), .string (⟨#[101, 109, 105, 116]⟩ : ByteArray), .string (⟨#[114, 101, 108, 101, 97, 115, 101]⟩ : ByteArray), .string (⟨#[116, 97, 107, 101]⟩ : ByteArray), .string (⟨#[114, 101, 116]⟩ : ByteArray), .string (⟨#[102, 97, 105, 108]⟩ : ByteArray)], rfl, rfl, ⟨[.string (⟨#[110, 101, 119]⟩ : ByteArray)], [.string (⟨#[114, 101, 97, 100]⟩ : ByteArray), .string (⟨#[119, 114, 105, 116, 101]⟩ : ByteArray), .string (⟨#[102, 111, 114, 107]⟩ : ByteArray), .string (⟨#[119, 97, 105, 116]⟩ : ByteArray), .string (⟨#[101, 109, 105, 116]⟩ : ByteArray), .string (⟨#[114, 101, 108, 101, 97, 115, 101]⟩ : ByteArray), .string (⟨#[116, 97, 107, 101]⟩ : ByteArray), .string (⟨#[114, 101, 116]⟩ : ByteArray), .string (⟨#[102, 97, 105, 108]⟩ : ByteArray)], rfl, rfl, ⟨[.string (⟨#[114, 101, 97, 100]⟩ : ByteArray)], [.string (⟨#[119, 114, 105, 116, 101]⟩ : ByteArray), .string (⟨#[102, 111, 114, 107]⟩ : ByteArray), .string (⟨#[119, 97, 105, 116]⟩ : ByteArray), .string (⟨#[101, 109, 105, 116]⟩ : ByteArray), .string (⟨#[114, 101, 108, 101, 97, 115, 101]⟩ : ByteArray), .string (⟨#[116, 97, 107, 101]⟩ : ByteArray), .string (⟨#[114, 101, 116]⟩ : ByteArray), .string (⟨#[102, 97, 105, 108]⟩ : ByteArray)], rfl, rfl, ⟨[.string (⟨#[119, 114, 105, 116, 101]⟩ : ByteArray)], [.string (⟨#[102, 111, 114, 107]⟩ : ByteArray), .string (⟨#[119, 97, 105, 116]⟩ : ByteArray), .string (⟨#[101, 109, 105, 116]⟩ : ByteArray), .string (⟨#[114, 101, 108, 101, 97, 115, 101]⟩ : ByteArray), .string (⟨#[116, 97, 107, 101]⟩ : ByteArray), .string (⟨#[114, 101, 116]⟩ : ByteArray), .string (⟨#[102, 97, 105, 108]⟩ : ByteArray)], rfl, rfl, ⟨[.string (⟨#[102, 111, 114, 107]⟩ : ByteArray)], [.string (⟨#[119, 97, 105, 116]⟩ : ByteArray), .string (⟨#[101, 109, 105, 116]⟩ : ByteArray), .string (⟨#[114, 101, 108, 101, 97, 115, 101]⟩ : ByteArray), .string (⟨#[116, 97, 107, 101]⟩ : ByteArray), .string (⟨#[114, 101, 116]⟩ : ByteArray), .string (⟨#[102, 97, 105, 108]⟩ : ByteArray)], rfl, rfl, ⟨[.string (⟨#[119, 97, 105, 116]⟩ : ByteArray)], [.string (⟨#[101, 109, 105, 116]⟩ : ByteArray), .string (⟨#[114, 101, 108, 101, 97, 115, 101]⟩ : ByteArray), .string (⟨#[116, 97, 107, 101]⟩ : ByteArray), .string (⟨#[114, 101, 116]⟩ : ByteArray), .string (⟨#[102, 97, 105, 108]⟩ : ByteArray)], rfl, rfl, ⟨[.string (⟨#[101, 109, 105, 116]⟩ : ByteArray)], [.string (⟨#[114, 101, 108, 101, 97, 115, 101]⟩ : ByteArray), .string (⟨#[116, 97, 107, 101]⟩ : ByteArray), .string (⟨#[114, 101, 116]⟩ : ByteArray), .string (⟨#[102, 97, 105, 108]⟩ : ByteArray)], rfl, rfl, ⟨[.string (⟨#[114, 101, 108, 101, 97, 115, 101]⟩ : ByteArray)], [.string (⟨#[116, 97, 107, 101]⟩ : ByteArray), .string (⟨#[114, 101, 116]⟩ : ByteArray), .string (⟨#[102, 97, 105, 108]⟩ : ByteArray)], rfl, rfl, ⟨[.string (⟨#[116, 97, 107, 101]⟩ : ByteArray)], [.string (⟨#[114, 101, 116]⟩ : ByteArray), .string (⟨#[102, 97, 105, 108]⟩ : ByteArray)], rfl, rfl, ⟨[.string (⟨#[114, 101, 116]⟩ : ByteArray)], [.string (⟨#[102, 97, 105, 108]⟩ : ByteArray)], rfl, rfl, ⟨[.string (⟨#[102, 97, 105, 108]⟩ : ByteArray)], [], rfl, rfl, rfl⟩⟩⟩⟩⟩⟩⟩⟩⟩⟩⟩⟩⟩⟩⟩⟩⟩⟩⟩⟩⟩⟩⟩⟩⟩⟩)) ?_)
 intro a1 w hS
 refine EL.quick 1 [0] [(0, sv (some ⟨a1, 0, none⟩) 26 a0)] (by kernel_rfl) ?_
 refine EL.done (by kernel_rfl) ?_
 refine EQ.code ?_
 refine EW.ret (by kernel_rfl) ?_
 obtain rfl := Option.some.inj H
 exact EQ.leave (sv (some ⟨a1, 0, none⟩) 26 a0) (by kernel_rfl) ⟨_, rfl, (some ⟨a1, 0, none⟩), 26, rfl, (hS.re [0] [] rfl (sub_self))⟩

/-! ### confidant/confidantref5.Name: function 18 -/
def confidantref5_Name.f (K : Nat) (a0 : Int) : Option ByteArray := b1 (confidantref5_Known.f K a0) fun (a2 : Bool) => (if a2 = true then (b1 (confidantref5_names.f K) fun (a1 : List ByteArray) => (if 0 ≤ (IntKind.i64.wrap (a0 - 1)) then (if (IntKind.i64.wrap (a0 - 1)) < (a1.length : Int) then (some (a1.getD (IntKind.i64.wrap (a0 - 1)).toNat ⟨#[]⟩)) else none) else none)) else (some (⟨#[]⟩ : ByteArray)))
set_option maxRecDepth 100000 in
theorem confidantref5_Name.calls {K : Nat} {a0 : Int} {a8 : ByteArray} {B w : World} {os : List Ass} {rs : List Ro} (H : confidantref5_Name.f K a0 = some a8) (hS : St B w (os) (rs)) :
  Calls Tryd.prog 18 [ia a0].toArray w (fun en w' => ∃ v, en = .returned v ∧ v = .string a8 ∧ St B w' (os) (rs)) := by
 unfold confidantref5_Name.f at H
 refine calls_of_EW (args := [ia a0]) (c := Cd18) 11 Tryd.func18 (by kernel_rfl) (by kernel_rfl) (by kernel_rfl) ?_
 refine EW.sq (by kernel_rfl) ?_
 refine EW.rg (by kernel_rfl) ?_
 refine EL.quick 1 [0] [(0, ia a0)] (by kernel_rfl) ?_
 refine EL.done (by kernel_rfl) ?_
 refine EQ.code ?_
 refine EW.sq (by kernel_rfl) ?_
 refine EW.sq (by kernel_rfl) ?_
 refine EW.rg (by kernel_rfl) ?_
 refine EL.quick 1 [0, 3] [(0, ia a0), (3, ia a0)] (by kernel_rfl) ?_
 obtain ⟨a2, b0, H⟩ := b1_out H
 have hq := confidantref5_Known.calls b0 hS
 refine EL.of (EO.callD 8 [ia a0] _ 4 (by kernel_rfl) (by kernel_rfl) (by kernel_rfl) hq ?_)
 rintro v w ⟨rfl, hS⟩
 refine EL.quick 1 [0, 5] [(0, ia a0), (5, .bool (!(a2)))] (by kernel_rfl) ?_
 refine EL.done (by kernel_rfl) ?_
 refine EQ.code ?_
 refine EW.cdQ (b := !(a2)) (a2 = true) (false) (by kernel_rfl) (by kernel_rfl) ⟨fun h => (by rw [h] <;> rfl), fun h => (by rw [Bool.eq_false_iff.2 h] <;> rfl)⟩ (fun a4 => ?_) (fun a4 => ?_)
 ·rw [if_pos a4] at H
  refine EW.skip (by kernel_rfl) ?_
  refine EQ.code ?_
  refine EW.sq (by kernel_rfl) ?_
  refine EW.rg (by kernel_rfl) ?_
  obtain ⟨a1, b2, H⟩ := b1_out H
  have hq := confidantref5_names.calls b2 hS
  refine EL.of (EO.callD 23 [] _ 6 (by kernel_rfl) (by kernel_rfl) (by kernel_rfl) hq ?_)
  rintro v w ⟨a9, a3, rfl, hS⟩
  refine EL.quick 2 [6, 8] [(6, sv a9 a3 a1), (8, ia (IntKind.i64.wrap (a0 - 1)))] (by kernel_rfl) ?_
  obtain ⟨a5, H⟩ := ite_in H
  obtain ⟨a6, H⟩ := ite_in H
  obtain ⟨a7, rfl⟩ := St.rd_some hS (Rd.own 0 9 rfl) a5 a6
  refine EL.of (EO.Y (YO.idx 36 1 a7 a1.length a3 .i64 (IntKind.i64.wrap (a0 - 1)) 9 (by kernel_rfl) (by kernel_rfl) (by kernel_rfl) (by kernel_rfl) a5 a6) ?_)
  refine EL.of (EO.Y (YO.loadEl hS Kd.str a7 a3 a1 (Rd.own 0 9 rfl) ⟨#[]⟩ encS encS_of (IntKind.i64.wrap (a0 - 1)) a5 a6 9 1 0 1 rfl (.string (a1.getD (IntKind.i64.wrap (a0 - 1)).toNat ⟨#[]⟩)) 10 (by kernel_rfl) (by kernel_rfl) (by kernel_rfl) (by kernel_rfl)) ?_)
  refine EL.quick 1 [2] [(2, .string (a1.getD (IntKind.i64.wrap (a0 - 1)).toNat ⟨#[]⟩))] (by kernel_rfl) ?_
  refine EL.done (by kernel_rfl) ?_
  refine EQ.code ?_
  refine EW.ret (by kernel_rfl) ?_
  obtain rfl := Option.some.inj H
  exact EQ.leave (.string (a1.getD (IntKind.i64.wrap (a0 - 1)).toNat ⟨#[]⟩)) (by kernel_rfl) ⟨_, rfl, rfl, (hS.re [] [0] rfl (sub_self))⟩
 rw [if_neg a4] at H
 refine EW.sq (by kernel_rfl) ?_
 refine EW.rg (by kernel_rfl) ?_
 refine EL.quick 1 [2] [(2, .string (⟨#[]⟩ : ByteArray))] (by kernel_rfl) ?_
 refine EL.done (by kernel_rfl) ?_
 refine EQ.code ?_
 refine EW.ret (by kernel_rfl) ?_
 refine EQ.ret ?_
 obtain rfl := Option.some.inj H
 exact EQ.leave (.string (⟨#[]⟩ : ByteArray)) (by kernel_rfl) ⟨_, rfl, rfl, (hS.re [] [] rfl (sub_self))⟩

/-! ### confidant/confidantref5.Find: function 20 -/
def confidantref5_Find.l0 (K : Nat) (a0 : List ByteArray) (a2 : ByteArray) : Nat → Int → Option (Int × Bool)
 | 0, _ => none
 | n + 1, a1 => if a1 < (a0.length : Int) then (if 0 ≤ a1 then (if ((a0.getD a1.toNat ⟨#[]⟩).toList == a2.toList) = true then (some (IntKind.i64.wrap (a1 + 1), true)) else (confidantref5_Find.l0 K a0 a2 n (IntKind.i64.wrap (a1 + 1)))) else none) else (some (0, false))
def confidantref5_Find.f (K : Nat) (a2 : ByteArray) : Option (Int × Bool) := b1 (confidantref5_names.f K) fun (a0 : List ByteArray) => (confidantref5_Find.l0 K a0 a2 K 0)
set_option maxRecDepth 100000 in
theorem confidantref5_Find.calls {K : Nat} {a2 : ByteArray} {a9 : Int} {b0 : Bool} {B w : World} {os : List Ass} {rs : List Ro} (H : confidantref5_Find.f K a2 = some (a9, b0)) (hS : St B w (os) (rs)) :
  Calls Tryd.prog 20 [.string a2].toArray w (fun en w' => ∃ v, en = .returned v ∧ v = .tuple #[ia a9, .bool (b0)] ∧ St B w' (os) (rs)) := by
 unfold confidantref5_Find.f at H
 refine calls_of_EW (args := [.string a2]) (c := Cd20) 21 Tryd.func20 (by kernel_rfl) (by kernel_rfl) (by kernel_rfl) ?_
 refine EW.sq (by kernel_rfl) ?_
 refine EW.rg (by kernel_rfl) ?_
 refine EL.quick 2 [0] [(0, .string a2)] (by kernel_rfl) ?_
 refine EL.done (by kernel_rfl) ?_
 refine EQ.code ?_
 refine EW.sq (by kernel_rfl) ?_
 refine EW.rg (by kernel_rfl) ?_
 obtain ⟨a0, b2, H⟩ := b1_out H
 have hq := confidantref5_names.calls b2 hS
 refine EL.of (EO.callD 23 [] _ 6 (by kernel_rfl) (by kernel_rfl) (by kernel_rfl) hq ?_)
 rintro v w ⟨a4, a3, rfl, hS⟩
 refine EL.quick 1 [0, 4] [(0, .string a2), (4, sv a4 a3 a0)] (by kernel_rfl) ?_
 refine EL.done (by kernel_rfl) ?_
 refine EQ.code ?_
 refine EW.sq (by kernel_rfl) ?_
 refine EW.sq (by kernel_rfl) ?_
 refine EW.rg (by kernel_rfl) ?_
 refine EL.quick 1 [0, 4, 5] [(0, .string a2), (4, sv a4 a3 a0), (5, ia 0)] (by kernel_rfl) ?_
 refine EL.done (by kernel_rfl) ?_
 refine EQ.code ?_
 refine EW.bl 0 (by kernel_rfl) ?_
 refine EW.lp (fun n a w => ∃ a1 : Int, Sat 21 [(0, .string a2), (4, sv a4 a3 a0), (5, ia a1)] a ∧ St B w (Ass.own 9 Kd.str a4 a3 a0 :: os) (rs) ∧ confidantref5_Find.l0 K a0 a2 n a1 = some (a9, b0)) K (by kernel_rfl) ?_ (fun n a w hI => ?_)
 ·refine EQ.keep [0, 4, 5] [(0, .string a2), (4, sv a4 a3 a0), (5, ia 0)] (by kernel_rfl) ?_
  exact fun a ha => ⟨0, ha, (hS.re [0] [] rfl (sub_self)), H⟩
 obtain ⟨a1, ha, hS, H⟩ := hI
 obtain _ | n := n
 ·simp [confidantref5_Find.l0] at H
 rw [confidantref5_Find.l0.eq_2] at H
 refine EW.at ?_ a ha
 clear ha a
 refine EW.sq (by kernel_rfl) ?_
 refine EW.sq (by kernel_rfl) ?_
 refine EW.rg (by kernel_rfl) ?_
 refine EL.quick 4 [0, 4, 5, 10] [(0, .string a2), (4, sv a4 a3 a0), (5, ia a1), (10, .bool (decide (a1 < (a0.length : Int))))] (by kernel_rfl) ?_
 refine EL.done (by kernel_rfl) ?_
 refine EQ.code ?_
 refine EW.cdP (a1 < (a0.length : Int)) (by kernel_rfl) (by kernel_rfl) (fun a5 => ?_) (fun a5 => ?_)
 ·rw [if_pos a5] at H
  refine EW.skip (by kernel_rfl) ?_
  refine EQ.code ?_
  refine EW.sq (by kernel_rfl) ?_
  refine EW.bl 1 (by kernel_rfl) ?_
  refine EW.sq (by kernel_rfl) ?_
  refine EW.rg (by kernel_rfl) ?_
  refine EL.quick 2 [0, 4, 5, 13, 14] [(0, .string a2), (4, sv a4 a3 a0), (5, ia a1), (13, sv a4 a3 a0), (14, ia a1)] (by kernel_rfl) ?_
  obtain ⟨a7, H⟩ := ite_in H
  obtain ⟨a6, rfl⟩ := St.rd_some hS (Rd.own 0 9 rfl) a7 a5
  refine EL.of (EO.Y (YO.idx 36 1 a6 a0.length a3 .i64 a1 15 (by kernel_rfl) (by kernel_rfl) (by kernel_rfl) (by kernel_rfl) a7 a5) ?_)
  refine EL.of (EO.Y (YO.loadEl hS Kd.str a6 a3 a0 (Rd.own 0 9 rfl) ⟨#[]⟩ encS encS_of a1 a7 a5 9 1 0 1 rfl (.string (a0.getD a1.toNat ⟨#[]⟩)) 16 (by kernel_rfl) (by kernel_rfl) (by kernel_rfl) (by kernel_rfl)) ?_)
  refine EL.quick 2 [0, 4, 5, 18] [(0, .string a2), (4, sv (some a6) a3 a0), (5, ia a1), (18, .bool (((a0.getD a1.toNat ⟨#[]⟩).toList == a2.toList)))] (by kernel_rfl) ?_
  refine EL.done (by kernel_rfl) ?_
  refine EQ.code ?_
  refine EW.cdP' (((a0.getD a1.toNat ⟨#[]⟩).toList == a2.toList)) (by kernel_rfl) (by kernel_rfl) (fun a8 => ?_) (fun a8 => ?_)
  ·rw [if_pos a8] at H
   refine EW.sq (by kernel_rfl) ?_
   refine EW.rg (by kernel_rfl) ?_
   refine EL.quick 4 [2, 3] [(2, ia (IntKind.i64.wrap (a1 + 1))), (3, .bool (true))] (by kernel_rfl) ?_
   refine EL.done (by kernel_rfl) ?_
   refine EQ.code ?_
   refine EW.ret (by kernel_rfl) ?_
   refine EQ.ret ?_
   refine EQ.ret ?_
   refine EQ.ret ?_
   refine EQ.ret ?_
   refine EQ.ret ?_
   simp only [sv, Option.some.injEq, Prod.mk.injEq] at H
   obtain ⟨rfl, rfl⟩ := H
   exact EQ.leave (.tuple #[ia (IntKind.i64.wrap (a1 + 1)), .bool (true)]) (by kernel_rfl) ⟨_, rfl, rfl, (hS.re [] [0] rfl (sub_self))⟩
  rw [if_neg a8] at H
  refine EW.skip (by kernel_rfl) ?_
  refine EQ.pop ?_
  refine EQ.code ?_
  refine EW.rg (by kernel_rfl) ?_
  refine EL.quick 3 [0, 4, 5] [(0, .string a2), (4, sv (some a6) a3 a0), (5, ia (IntKind.i64.wrap (a1 + 1)))] (by kernel_rfl) ?_
  refine EL.done (by kernel_rfl) ?_
  refine EQ.to ?_
  refine EQ.keep [0, 4, 5] [(0, .string a2), (4, sv (some a6) a3 a0), (5, ia (IntKind.i64.wrap (a1 + 1)))] (by kernel_rfl) ?_
  exact fun a ha => ⟨n, Nat.lt_succ_self n, IntKind.i64.wrap (a1 + 1), ha, (hS.re [0] [] rfl (sub_self)), H⟩
 rw [if_neg a5] at H
 refine EW.exit (id := 0) (by kernel_rfl) ?_
 refine EQ.exitCode ?_
 refine EQ.exitTo ?_
 refine EQ.exitHere ?_
 refine EQ.code ?_
 refine EW.sq (by kernel_rfl) ?_
 refine EW.rg (by kernel_rfl) ?_
 refine EL.quick 2 [2, 3] [(2, ia 0), (3, .bool (false))] (by kernel_rfl) ?_
 refine EL.done (by kernel_rfl) ?_
 refine EQ.code ?_
 refine EW.ret (by kernel_rfl) ?_
 simp only [sv, Option.some.injEq, Prod.mk.injEq] at H
 obtain ⟨rfl, rfl⟩ := H
 exact EQ.leave (.tuple #[ia 0, .bool (false)]) (by kernel_rfl) ⟨_, rfl, rfl, (hS.re [] [0] rfl (sub_self))⟩

end Go.Proofs.YtipaaapbapijhaaDoor.G
