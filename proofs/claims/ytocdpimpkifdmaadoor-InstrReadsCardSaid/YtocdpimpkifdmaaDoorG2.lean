import Derived.Test.YtocdpimpkifdmaaDoorProg
import Derived.Test.YtocdpimpkifdmaaDoorFwShort
import Derived.Test.YtocdpimpkifdmaaDoorFwOpen
import Derived.Test.YtocdpimpkifdmaaDoorFwStr
namespace Go.Proofs.YtocdpimpkifdmaaDoor.G
open Go Go.Fw Go.RowKit Go.Proofs
set_option linter.unusedVariables false
set_option linter.unusedSimpArgs false

structure S54 where
 f0 : Int
 f1 : Int
deriving DecidableEq
def zS54 : S54 := ⟨0, 0⟩
def kS54 : Kd S54 := Kd.iso (Kd.prod (Kd.int .i64) (Kd.prod (Kd.int .i32) Kd.unit)) (fun s => (s.f0, s.f1, ()))
def encS54 (s : S54) : List Value := [ia s.f0, ib s.f1]
theorem encS54_of (w : World) (G : Bl) (vs : List Value) (x : S54) (h : kS54.rep w G vs x) : vs = encS54 x := by
 obtain ⟨_, _, rfl, h0, ⟨_, _, rfl, h1, hu⟩⟩ := h
 have h0 := encI_of _ _ _ _ h0
 have h1 := encI_of _ _ _ _ h1
 have hu : _ = [] := hu
 subst hu
 subst h0
 subst h1
 rfl

noncomputable def Cd9 : Code := bodyOf Tryd.f9

noncomputable def Cd36 : Code := bodyOf Tryd.f36

noncomputable def Cd37 : Code := bodyOf Tryd.f37

noncomputable def Cd38 : Code := bodyOf Tryd.f38

noncomputable def Cd39 : Code := bodyOf Tryd.f39

noncomputable def Cd40 : Code := bodyOf Tryd.f40

noncomputable def Cd44 : Code := bodyOf Tryd.f44

noncomputable def Cd45 : Code := bodyOf Tryd.f45

noncomputable def Cd55 : Code := bodyOf Tryd.f55

noncomputable def Cd71 : Code := bodyOf Tryd.f71

noncomputable def Cd72 : Code := bodyOf Tryd.f72

noncomputable def Cd73 : Code := bodyOf Tryd.f73

noncomputable def Cd74 : Code := bodyOf Tryd.f74

noncomputable def Cd80 : Code := bodyOf Tryd.f80

noncomputable def Cd90 : Code := bodyOf Tryd.f90

/-! ### confidant/confidantref5.Arg: function 71 -/
def confidantref5_Arg.f (K : Nat) (a35 : Int) : Option Int := lt (fun (x82 : Bool) => (if x82 = true then (some 1) else (lt (fun (x89 : Bool) => (if x89 = true then (some 2) else (lt (fun (x96 : Bool) => (if x96 = true then (some 3) else (lt (fun (a1 : Bool) => (if a1 = true then (some 4) else (if a35 = 20 then (some 5) else (lt (fun (a2 : Bool) => (if a2 = true then (some 6) else (some 0))) fun a7 => (if a35 = 23 then (a7 true) else (a7 (decide (a35 = 24)))))))) fun a0 => (if a35 = 15 then (a0 true) else (if a35 = 16 then (a0 true) else (if a35 = 17 then (a0 true) else (a0 (decide (a35 = 22))))))))) fun j97 => (if a35 = 12 then (j97 true) else (j97 (decide (a35 = 13))))))) fun j90 => (if a35 = 10 then (j90 true) else (j90 (decide (a35 = 11))))))) fun j83 => (if a35 = 1 then (j83 true) else (j83 (decide (a35 = 26))))
set_option maxRecDepth 100000 in
theorem confidantref5_Arg.calls {K : Nat} {a35 : Int} {x78 : Int} {B w : World} {os : List Ass} {rs : List Ro} (H : confidantref5_Arg.f K a35 = some x78) (hS : St B w (os) (rs)) :
  Calls Tryd.prog 71 [ia a35].toArray w (fun en w' => ∃ v, en = .returned v ∧ v = ia x78 ∧ St B w' (os) (rs)) := by
 unfold confidantref5_Arg.f at H
 refine calls_of_EW (args := [ia a35]) (c := Cd71) 23 Tryd.func71 (by kernel_rfl) (by kernel_rfl) (by kernel_rfl) ?_
 refine EW.sq (by kernel_rfl) ?_
 refine EW.rg (by kernel_rfl) ?_
 refine EL.quick 1 [0] [(0, ia a35)] (by kernel_rfl) ?_
 refine EL.done (by kernel_rfl) ?_
 refine EQ.code ?_
 refine EW.sq (by kernel_rfl) ?_
 refine EW.sq (by kernel_rfl) ?_
 refine EW.rg (by kernel_rfl) ?_
 refine EL.quick 1 [3] [(3, ia a35)] (by kernel_rfl) ?_
 refine EL.done (by kernel_rfl) ?_
 refine EQ.code ?_
 refine EW.bl 0 (by kernel_rfl) ?_
 obtain ⟨j83, hj83, H⟩ := lt_out H
 refine EW.ct (fun a w => ∃ x82 : Bool, Sat 23 [(3, ia a35), (4, .bool (x82))] a ∧ St B w (os) (rs) ∧ j83 x82 = some x78) (by kernel_rfl) ?_ (fun a w hI => ?_)
 ·refine EW.sq (by kernel_rfl) ?_
  refine EW.rg (by kernel_rfl) ?_
  refine EL.quick 2 [3, 4] [(3, ia a35), (4, .bool (decide (a35 = 1)))] (by kernel_rfl) ?_
  refine EL.done (by kernel_rfl) ?_
  refine EQ.code ?_
  refine EW.cdP (a35 = 1) (by kernel_rfl) (by kernel_rfl) (fun h84 => ?_) (fun h84 => ?_)
  ·rw [if_pos h84] at H
   refine EW.keep [3, 4] [(3, ia a35), (4, .bool (decide (a35 = 1)))] (by kernel_rfl) ?_
   refine EW.as' [(3, ia a35), (4, .bool (true))] (by simp only [dec_t h84, Bool.not_true, Bool.not_false]) ?_
   refine EW.skip (by kernel_rfl) ?_
   refine EQ.to ?_
   refine EQ.keep [3, 4] [(3, ia a35), (4, .bool (true))] (by kernel_rfl) ?_
   exact fun a ha => ⟨true, ha, (hS.re [] [] rfl (sub_self)), H⟩
  rw [if_neg h84] at H
  refine EW.rg (by kernel_rfl) ?_
  refine EL.quick 2 [3, 4] [(3, ia a35), (4, .bool (decide (a35 = 26)))] (by kernel_rfl) ?_
  refine EL.done (by kernel_rfl) ?_
  refine EQ.to ?_
  refine EQ.keep [3, 4] [(3, ia a35), (4, .bool (decide (a35 = 26)))] (by kernel_rfl) ?_
  exact fun a ha => ⟨decide (a35 = 26), ha, (hS.re [] [] rfl (sub_self)), H⟩
 obtain ⟨x82, ha, hS, H⟩ := hI
 rw [hj83] at H
 (try dsimp only at H)
 refine EW.at ?_ a ha
 clear ha a
 refine EW.cdP' (x82) (by kernel_rfl) (by kernel_rfl) (fun h85 => ?_) (fun h85 => ?_)
 ·rw [if_pos h85] at H
  refine EW.sq (by kernel_rfl) ?_
  refine EW.rg (by kernel_rfl) ?_
  refine EL.quick 1 [2] [(2, ia 1)] (by kernel_rfl) ?_
  refine EL.done (by kernel_rfl) ?_
  refine EQ.code ?_
  refine EW.ret (by kernel_rfl) ?_
  refine EQ.ret ?_
  refine EQ.ret ?_
  obtain rfl := Option.some.inj H
  exact EQ.leave (ia 1) (by kernel_rfl) ⟨_, rfl, rfl, (hS.re [] [] rfl (sub_self))⟩
 rw [if_neg h85] at H
 obtain ⟨j90, hj90, H⟩ := lt_out H
 refine EW.ct (fun a w => ∃ x89 : Bool, Sat 23 [(3, ia a35), (7, .bool (x89))] a ∧ St B w (os) (rs) ∧ j90 x89 = some x78) (by kernel_rfl) ?_ (fun a w hI => ?_)
 ·refine EW.sq (by kernel_rfl) ?_
  refine EW.rg (by kernel_rfl) ?_
  refine EL.quick 2 [3, 7] [(3, ia a35), (7, .bool (decide (a35 = 10)))] (by kernel_rfl) ?_
  refine EL.done (by kernel_rfl) ?_
  refine EQ.code ?_
  refine EW.cdP (a35 = 10) (by kernel_rfl) (by kernel_rfl) (fun h91 => ?_) (fun h91 => ?_)
  ·rw [if_pos h91] at H
   refine EW.keep [3, 7] [(3, ia a35), (7, .bool (decide (a35 = 10)))] (by kernel_rfl) ?_
   refine EW.as' [(3, ia a35), (7, .bool (true))] (by simp only [dec_t h91, Bool.not_true, Bool.not_false]) ?_
   refine EW.skip (by kernel_rfl) ?_
   refine EQ.to ?_
   refine EQ.keep [3, 7] [(3, ia a35), (7, .bool (true))] (by kernel_rfl) ?_
   exact fun a ha => ⟨true, ha, (hS.re [] [] rfl (sub_self)), H⟩
  rw [if_neg h91] at H
  refine EW.rg (by kernel_rfl) ?_
  refine EL.quick 2 [3, 7] [(3, ia a35), (7, .bool (decide (a35 = 11)))] (by kernel_rfl) ?_
  refine EL.done (by kernel_rfl) ?_
  refine EQ.to ?_
  refine EQ.keep [3, 7] [(3, ia a35), (7, .bool (decide (a35 = 11)))] (by kernel_rfl) ?_
  exact fun a ha => ⟨decide (a35 = 11), ha, (hS.re [] [] rfl (sub_self)), H⟩
 obtain ⟨x89, ha, hS, H⟩ := hI
 rw [hj90] at H
 (try dsimp only at H)
 refine EW.at ?_ a ha
 clear ha a
 refine EW.cdP' (x89) (by kernel_rfl) (by kernel_rfl) (fun h92 => ?_) (fun h92 => ?_)
 ·rw [if_pos h92] at H
  refine EW.sq (by kernel_rfl) ?_
  refine EW.rg (by kernel_rfl) ?_
  refine EL.quick 1 [2] [(2, ia 2)] (by kernel_rfl) ?_
  refine EL.done (by kernel_rfl) ?_
  refine EQ.code ?_
  refine EW.ret (by kernel_rfl) ?_
  refine EQ.ret ?_
  refine EQ.ret ?_
  obtain rfl := Option.some.inj H
  exact EQ.leave (ia 2) (by kernel_rfl) ⟨_, rfl, rfl, (hS.re [] [] rfl (sub_self))⟩
 rw [if_neg h92] at H
 obtain ⟨j97, hj97, H⟩ := lt_out H
 refine EW.ct (fun a w => ∃ x96 : Bool, Sat 23 [(3, ia a35), (10, .bool (x96))] a ∧ St B w (os) (rs) ∧ j97 x96 = some x78) (by kernel_rfl) ?_ (fun a w hI => ?_)
 ·refine EW.sq (by kernel_rfl) ?_
  refine EW.rg (by kernel_rfl) ?_
  refine EL.quick 2 [3, 10] [(3, ia a35), (10, .bool (decide (a35 = 12)))] (by kernel_rfl) ?_
  refine EL.done (by kernel_rfl) ?_
  refine EQ.code ?_
  refine EW.cdP (a35 = 12) (by kernel_rfl) (by kernel_rfl) (fun h98 => ?_) (fun h98 => ?_)
  ·rw [if_pos h98] at H
   refine EW.keep [3, 10] [(3, ia a35), (10, .bool (decide (a35 = 12)))] (by kernel_rfl) ?_
   refine EW.as' [(3, ia a35), (10, .bool (true))] (by simp only [dec_t h98, Bool.not_true, Bool.not_false]) ?_
   refine EW.skip (by kernel_rfl) ?_
   refine EQ.to ?_
   refine EQ.keep [3, 10] [(3, ia a35), (10, .bool (true))] (by kernel_rfl) ?_
   exact fun a ha => ⟨true, ha, (hS.re [] [] rfl (sub_self)), H⟩
  rw [if_neg h98] at H
  refine EW.rg (by kernel_rfl) ?_
  refine EL.quick 2 [3, 10] [(3, ia a35), (10, .bool (decide (a35 = 13)))] (by kernel_rfl) ?_
  refine EL.done (by kernel_rfl) ?_
  refine EQ.to ?_
  refine EQ.keep [3, 10] [(3, ia a35), (10, .bool (decide (a35 = 13)))] (by kernel_rfl) ?_
  exact fun a ha => ⟨decide (a35 = 13), ha, (hS.re [] [] rfl (sub_self)), H⟩
 obtain ⟨x96, ha, hS, H⟩ := hI
 rw [hj97] at H
 (try dsimp only at H)
 refine EW.at ?_ a ha
 clear ha a
 refine EW.cdP' (x96) (by kernel_rfl) (by kernel_rfl) (fun h99 => ?_) (fun h99 => ?_)
 ·rw [if_pos h99] at H
  refine EW.sq (by kernel_rfl) ?_
  refine EW.rg (by kernel_rfl) ?_
  refine EL.quick 1 [2] [(2, ia 3)] (by kernel_rfl) ?_
  refine EL.done (by kernel_rfl) ?_
  refine EQ.code ?_
  refine EW.ret (by kernel_rfl) ?_
  refine EQ.ret ?_
  refine EQ.ret ?_
  obtain rfl := Option.some.inj H
  exact EQ.leave (ia 3) (by kernel_rfl) ⟨_, rfl, rfl, (hS.re [] [] rfl (sub_self))⟩
 rw [if_neg h99] at H
 obtain ⟨a0, b1, H⟩ := lt_out H
 refine EW.ct (fun a w => ∃ a1 : Bool, Sat 23 [(3, ia a35), (13, .bool (a1))] a ∧ St B w (os) (rs) ∧ a0 a1 = some x78) (by kernel_rfl) ?_ (fun a w hI => ?_)
 ·refine EW.sq (by kernel_rfl) ?_
  refine EW.rg (by kernel_rfl) ?_
  refine EL.quick 2 [3, 13] [(3, ia a35), (13, .bool (decide (a35 = 15)))] (by kernel_rfl) ?_
  refine EL.done (by kernel_rfl) ?_
  refine EQ.code ?_
  refine EW.cdP (a35 = 15) (by kernel_rfl) (by kernel_rfl) (fun a3 => ?_) (fun a3 => ?_)
  ·rw [if_pos a3] at H
   refine EW.keep [3, 13] [(3, ia a35), (13, .bool (decide (a35 = 15)))] (by kernel_rfl) ?_
   refine EW.as' [(3, ia a35), (13, .bool (true))] (by simp only [dec_t a3, Bool.not_true, Bool.not_false]) ?_
   refine EW.skip (by kernel_rfl) ?_
   refine EQ.to ?_
   refine EQ.keep [3, 13] [(3, ia a35), (13, .bool (true))] (by kernel_rfl) ?_
   exact fun a ha => ⟨true, ha, (hS.re [] [] rfl (sub_self)), H⟩
  rw [if_neg a3] at H
  refine EW.sq (by kernel_rfl) ?_
  refine EW.rg (by kernel_rfl) ?_
  refine EL.quick 2 [3, 13] [(3, ia a35), (13, .bool (decide (a35 = 16)))] (by kernel_rfl) ?_
  refine EL.done (by kernel_rfl) ?_
  refine EQ.code ?_
  refine EW.cdP (a35 = 16) (by kernel_rfl) (by kernel_rfl) (fun a4 => ?_) (fun a4 => ?_)
  ·rw [if_pos a4] at H
   refine EW.keep [3, 13] [(3, ia a35), (13, .bool (decide (a35 = 16)))] (by kernel_rfl) ?_
   refine EW.as' [(3, ia a35), (13, .bool (true))] (by simp only [dec_t a4, Bool.not_true, Bool.not_false]) ?_
   refine EW.skip (by kernel_rfl) ?_
   refine EQ.to ?_
   refine EQ.keep [3, 13] [(3, ia a35), (13, .bool (true))] (by kernel_rfl) ?_
   exact fun a ha => ⟨true, ha, (hS.re [] [] rfl (sub_self)), H⟩
  rw [if_neg a4] at H
  refine EW.sq (by kernel_rfl) ?_
  refine EW.rg (by kernel_rfl) ?_
  refine EL.quick 2 [3, 13] [(3, ia a35), (13, .bool (decide (a35 = 17)))] (by kernel_rfl) ?_
  refine EL.done (by kernel_rfl) ?_
  refine EQ.code ?_
  refine EW.cdP (a35 = 17) (by kernel_rfl) (by kernel_rfl) (fun a5 => ?_) (fun a5 => ?_)
  ·rw [if_pos a5] at H
   refine EW.keep [3, 13] [(3, ia a35), (13, .bool (decide (a35 = 17)))] (by kernel_rfl) ?_
   refine EW.as' [(3, ia a35), (13, .bool (true))] (by simp only [dec_t a5, Bool.not_true, Bool.not_false]) ?_
   refine EW.skip (by kernel_rfl) ?_
   refine EQ.to ?_
   refine EQ.keep [3, 13] [(3, ia a35), (13, .bool (true))] (by kernel_rfl) ?_
   exact fun a ha => ⟨true, ha, (hS.re [] [] rfl (sub_self)), H⟩
  rw [if_neg a5] at H
  refine EW.rg (by kernel_rfl) ?_
  refine EL.quick 2 [3, 13] [(3, ia a35), (13, .bool (decide (a35 = 22)))] (by kernel_rfl) ?_
  refine EL.done (by kernel_rfl) ?_
  refine EQ.to ?_
  refine EQ.keep [3, 13] [(3, ia a35), (13, .bool (decide (a35 = 22)))] (by kernel_rfl) ?_
  exact fun a ha => ⟨decide (a35 = 22), ha, (hS.re [] [] rfl (sub_self)), H⟩
 obtain ⟨a1, ha, hS, H⟩ := hI
 rw [b1] at H
 (try dsimp only at H)
 refine EW.at ?_ a ha
 clear ha a
 refine EW.cdP' (a1) (by kernel_rfl) (by kernel_rfl) (fun a8 => ?_) (fun a8 => ?_)
 ·rw [if_pos a8] at H
  refine EW.sq (by kernel_rfl) ?_
  refine EW.rg (by kernel_rfl) ?_
  refine EL.quick 1 [2] [(2, ia 4)] (by kernel_rfl) ?_
  refine EL.done (by kernel_rfl) ?_
  refine EQ.code ?_
  refine EW.ret (by kernel_rfl) ?_
  refine EQ.ret ?_
  refine EQ.ret ?_
  obtain rfl := Option.some.inj H
  exact EQ.leave (ia 4) (by kernel_rfl) ⟨_, rfl, rfl, (hS.re [] [] rfl (sub_self))⟩
 rw [if_neg a8] at H
 refine EW.sq (by kernel_rfl) ?_
 refine EW.rg (by kernel_rfl) ?_
 refine EL.quick 2 [3, 18] [(3, ia a35), (18, .bool (decide (a35 = 20)))] (by kernel_rfl) ?_
 refine EL.done (by kernel_rfl) ?_
 refine EQ.code ?_
 refine EW.cdP (a35 = 20) (by kernel_rfl) (by kernel_rfl) (fun a9 => ?_) (fun a9 => ?_)
 ·rw [if_pos a9] at H
  refine EW.sq (by kernel_rfl) ?_
  refine EW.rg (by kernel_rfl) ?_
  refine EL.quick 1 [2] [(2, ia 5)] (by kernel_rfl) ?_
  refine EL.done (by kernel_rfl) ?_
  refine EQ.code ?_
  refine EW.ret (by kernel_rfl) ?_
  refine EQ.ret ?_
  refine EQ.ret ?_
  obtain rfl := Option.some.inj H
  exact EQ.leave (ia 5) (by kernel_rfl) ⟨_, rfl, rfl, (hS.re [] [] rfl (sub_self))⟩
 rw [if_neg a9] at H
 obtain ⟨a7, b2, H⟩ := lt_out H
 refine EW.ct (fun a w => ∃ a2 : Bool, Sat 23 [(20, .bool (a2))] a ∧ St B w (os) (rs) ∧ a7 a2 = some x78) (by kernel_rfl) ?_ (fun a w hI => ?_)
 ·refine EW.sq (by kernel_rfl) ?_
  refine EW.rg (by kernel_rfl) ?_
  refine EL.quick 2 [3, 20] [(3, ia a35), (20, .bool (decide (a35 = 23)))] (by kernel_rfl) ?_
  refine EL.done (by kernel_rfl) ?_
  refine EQ.code ?_
  refine EW.cdP (a35 = 23) (by kernel_rfl) (by kernel_rfl) (fun a6 => ?_) (fun a6 => ?_)
  ·rw [if_pos a6] at H
   refine EW.keep [20] [(20, .bool (decide (a35 = 23)))] (by kernel_rfl) ?_
   refine EW.as' [(20, .bool (true))] (by simp only [dec_t a6, Bool.not_true, Bool.not_false]) ?_
   refine EW.skip (by kernel_rfl) ?_
   refine EQ.to ?_
   refine EQ.keep [20] [(20, .bool (true))] (by kernel_rfl) ?_
   exact fun a ha => ⟨true, ha, (hS.re [] [] rfl (sub_self)), H⟩
  rw [if_neg a6] at H
  refine EW.rg (by kernel_rfl) ?_
  refine EL.quick 2 [20] [(20, .bool (decide (a35 = 24)))] (by kernel_rfl) ?_
  refine EL.done (by kernel_rfl) ?_
  refine EQ.to ?_
  refine EQ.keep [20] [(20, .bool (decide (a35 = 24)))] (by kernel_rfl) ?_
  exact fun a ha => ⟨decide (a35 = 24), ha, (hS.re [] [] rfl (sub_self)), H⟩
 obtain ⟨a2, ha, hS, H⟩ := hI
 rw [b2] at H
 (try dsimp only at H)
 refine EW.at ?_ a ha
 clear ha a
 refine EW.cdP' (a2) (by kernel_rfl) (by kernel_rfl) (fun b0 => ?_) (fun b0 => ?_)
 ·rw [if_pos b0] at H
  refine EW.sq (by kernel_rfl) ?_
  refine EW.rg (by kernel_rfl) ?_
  refine EL.quick 1 [2] [(2, ia 6)] (by kernel_rfl) ?_
  refine EL.done (by kernel_rfl) ?_
  refine EQ.code ?_
  refine EW.ret (by kernel_rfl) ?_
  refine EQ.ret ?_
  refine EQ.ret ?_
  obtain rfl := Option.some.inj H
  exact EQ.leave (ia 6) (by kernel_rfl) ⟨_, rfl, rfl, (hS.re [] [] rfl (sub_self))⟩
 rw [if_neg b0] at H
 refine EW.skip (by kernel_rfl) ?_
 refine EQ.pop ?_
 refine EQ.code ?_
 refine EW.sq (by kernel_rfl) ?_
 refine EW.rg (by kernel_rfl) ?_
 refine EL.quick 1 [2] [(2, ia 0)] (by kernel_rfl) ?_
 refine EL.done (by kernel_rfl) ?_
 refine EQ.code ?_
 refine EW.ret (by kernel_rfl) ?_
 obtain rfl := Option.some.inj H
 exact EQ.leave (ia 0) (by kernel_rfl) ⟨_, rfl, rfl, (hS.re [] [] rfl (sub_self))⟩

/-! ### confidant/confidantseat.in: function 72 -/
def confidantseat_in.f (K : Nat) (a0 : Int) (a1 : Int) : Option (Int × Int) := some (a0, IntKind.i32.wrap a1)
set_option maxRecDepth 100000 in
theorem confidantseat_in.calls {K : Nat} {a0 : Int} {a1 : Int} {a3 : Int} {a4 : Int} {B w : World} {os : List Ass} {rs : List Ro} (H : confidantseat_in.f K a0 a1 = some (a3, a4)) (hS : St B w (os) (rs)) :
  Calls Tryd.prog 72 [ia a0, ia a1].toArray w (fun en w' => ∃ v, en = .returned v ∧ v = ag [ia a3, ib a4] ∧ St B w' (os) (rs)) := by
 unfold confidantseat_in.f at H
 refine calls_of_EW (args := [ia a0, ia a1]) (c := Cd72) 9 Tryd.func72 (by kernel_rfl) (by kernel_rfl) (by kernel_rfl) ?_
 refine EW.sq (by kernel_rfl) ?_
 refine EW.rg (by kernel_rfl) ?_
 refine EL.of (EO.alloc hS 54 (ag [ia 0, ib 0]) [ia 0, ib 0] 4 (by kernel_rfl) (by kernel_rfl) (by kernel_rfl) (by kernel_rfl) (by first | rfl | kernel_rfl) ?_)
 intro a2 w hS
 refine EL.done (by kernel_rfl) ?_
 refine EQ.code ?_
 refine EW.sq (by kernel_rfl) ?_
 refine EW.rg (by kernel_rfl) ?_
 refine EL.quick 4 [4, 8] [(4, pt a2 0), (8, ag [ia a0, ib (IntKind.i32.wrap a1)])] (by kernel_rfl) ?_
 refine EL.of (EO.storeBox (os' := Ass.box 54 a2 [ia a0, ib (IntKind.i32.wrap a1)] :: os) hS 0 rfl 54 0 (ag [ia a0, ib (IntKind.i32.wrap a1)]) [ia a0, ib (IntKind.i32.wrap a1)] (by kernel_rfl) (by kernel_rfl) (by kernel_rfl) (by kernel_rfl) (by kernel_rfl) (by kernel_rfl) rfl rfl ?_)
 intro w hS
 refine EL.done (by kernel_rfl) ?_
 refine EQ.code ?_
 refine EW.ret (by kernel_rfl) ?_
 simp only [Option.some.injEq, Prod.mk.injEq] at H
 obtain ⟨rfl, rfl⟩ := H
 exact EQ.leaveC hS 0 rfl 4 54 0 2 (ag [ia a0, ib (IntKind.i32.wrap a1)]) (by kernel_rfl) (by kernel_rfl) (by kernel_rfl) ⟨_, rfl, rfl, (hS.re [] [0] rfl (sub_self))⟩

/-! ### confidant/confidantseat.Instr: function 36 -/
def confidantseat_Instr.f (K : Nat) (a31 : Int) (a32 : Int) : Option (Int × Int) := b1 (confidantref5_Arg.f K (IntKind.i64.wrap ((Int.tmod (IntKind.i64.wrap a31) 26) + 1))) fun (a5 : Int) => (if a5 = 0 then (b2 (confidantseat_in.f K (IntKind.i64.wrap ((Int.tmod (IntKind.i64.wrap a31) 26) + 1)) 0) fun (a1 : Int) (a2 : Int) => (some (a1, a2))) else (b2 (confidantseat_in.f K (IntKind.i64.wrap ((Int.tmod (IntKind.i64.wrap a31) 26) + 1)) (IntKind.i64.wrap (Int.tmod a32 12))) fun (a3 : Int) (a4 : Int) => (some (a3, a4))))
set_option maxRecDepth 100000 in
theorem confidantseat_Instr.calls {K : Nat} {a31 : Int} {a32 : Int} {a7 : Int} {a8 : Int} {B w : World} {os : List Ass} {rs : List Ro} (H : confidantseat_Instr.f K a31 a32 = some (a7, a8)) (hS : St B w (os) (rs)) :
  Calls Tryd.prog 36 [ig a31, ig a32].toArray w (fun en w' => ∃ v, en = .returned v ∧ v = ag [ia a7, ib a8] ∧ St B w' (os) (rs)) := by
 unfold confidantseat_Instr.f at H
 refine calls_of_EW (args := [ig a31, ig a32]) (c := Cd36) 20 Tryd.func36 (by kernel_rfl) (by kernel_rfl) (by kernel_rfl) ?_
 refine EW.sq (by kernel_rfl) ?_
 refine EW.rg (by kernel_rfl) ?_
 refine EL.of (EO.alloc hS 54 (ag [ia 0, ib 0]) [ia 0, ib 0] 4 (by kernel_rfl) (by kernel_rfl) (by kernel_rfl) (by kernel_rfl) (by first | rfl | kernel_rfl) ?_)
 intro a0 w hS
 refine EL.done (by kernel_rfl) ?_
 refine EQ.code ?_
 refine EW.sq (by kernel_rfl) ?_
 refine EW.rg (by kernel_rfl) ?_
 refine EL.quick 5 [1, 4, 5] [(1, ig a32), (4, pt a0 0), (5, ia (IntKind.i64.wrap ((Int.tmod (IntKind.i64.wrap a31) 26) + 1)))] (by kernel_rfl) ?_
 refine EL.done (by kernel_rfl) ?_
 refine EQ.code ?_
 refine EW.sq (by kernel_rfl) ?_
 refine EW.sq (by kernel_rfl) ?_
 refine EW.rg (by kernel_rfl) ?_
 refine EL.quick 1 [1, 4, 5, 10] [(1, ig a32), (4, pt a0 0), (5, ia (IntKind.i64.wrap ((Int.tmod (IntKind.i64.wrap a31) 26) + 1))), (10, ia (IntKind.i64.wrap ((Int.tmod (IntKind.i64.wrap a31) 26) + 1)))] (by kernel_rfl) ?_
 obtain ⟨a5, a9, H⟩ := b1_out H
 have hq := confidantref5_Arg.calls a9 hS
 refine EL.of (EO.callD 71 [ia (IntKind.i64.wrap ((Int.tmod (IntKind.i64.wrap a31) 26) + 1))] _ 11 (by kernel_rfl) (by kernel_rfl) (by kernel_rfl) hq ?_)
 rintro v w ⟨rfl, hS⟩
 refine EL.quick 1 [1, 4, 5, 12] [(1, ig a32), (4, pt a0 0), (5, ia (IntKind.i64.wrap ((Int.tmod (IntKind.i64.wrap a31) 26) + 1))), (12, .bool (decide (a5 = 0)))] (by kernel_rfl) ?_
 refine EL.done (by kernel_rfl) ?_
 refine EQ.code ?_
 refine EW.cdP (a5 = 0) (by kernel_rfl) (by kernel_rfl) (fun a6 => ?_) (fun a6 => ?_)
 ·rw [if_pos a6] at H
  refine EW.sq (by kernel_rfl) ?_
  refine EW.rg (by kernel_rfl) ?_
  refine EL.quick 1 [4, 13] [(4, pt a0 0), (13, ia (IntKind.i64.wrap ((Int.tmod (IntKind.i64.wrap a31) 26) + 1)))] (by kernel_rfl) ?_
  obtain ⟨a1, a2, b0, H⟩ := b2_out H
  have hq := confidantseat_in.calls b0 hS
  refine EL.of (EO.callD 72 [ia (IntKind.i64.wrap ((Int.tmod (IntKind.i64.wrap a31) 26) + 1)), ia 0] _ 14 (by kernel_rfl) (by kernel_rfl) (by kernel_rfl) hq ?_)
  rintro v w ⟨rfl, hS⟩
  refine EL.of (EO.storeBox (os' := Ass.box 54 a0 [ia a1, ib a2] :: os) hS 0 rfl 54 0 (ag [ia a1, ib a2]) [ia a1, ib a2] (by kernel_rfl) (by kernel_rfl) (by kernel_rfl) (by kernel_rfl) (by kernel_rfl) (by kernel_rfl) rfl rfl ?_)
  intro w hS
  refine EL.done (by kernel_rfl) ?_
  refine EQ.code ?_
  refine EW.ret (by kernel_rfl) ?_
  refine EQ.ret ?_
  simp only [Option.some.injEq, Prod.mk.injEq] at H
  obtain ⟨rfl, rfl⟩ := H
  exact EQ.leaveC hS 0 rfl 4 54 0 2 (ag [ia a1, ib a2]) (by kernel_rfl) (by kernel_rfl) (by kernel_rfl) ⟨_, rfl, rfl, (hS.re [] [0] rfl (sub_self))⟩
 rw [if_neg a6] at H
 refine EW.skip (by kernel_rfl) ?_
 refine EQ.code ?_
 refine EW.sq (by kernel_rfl) ?_
 refine EW.rg (by kernel_rfl) ?_
 refine EL.quick 4 [4, 15, 18] [(4, pt a0 0), (15, ia (IntKind.i64.wrap ((Int.tmod (IntKind.i64.wrap a31) 26) + 1))), (18, ia (IntKind.i64.wrap (Int.tmod a32 12)))] (by kernel_rfl) ?_
 obtain ⟨a3, a4, b3, H⟩ := b2_out H
 have hq := confidantseat_in.calls b3 hS
 refine EL.of (EO.callD 72 [ia (IntKind.i64.wrap ((Int.tmod (IntKind.i64.wrap a31) 26) + 1)), ia (IntKind.i64.wrap (Int.tmod a32 12))] _ 19 (by kernel_rfl) (by kernel_rfl) (by kernel_rfl) hq ?_)
 rintro v w ⟨rfl, hS⟩
 refine EL.of (EO.storeBox (os' := Ass.box 54 a0 [ia a3, ib a4] :: os) hS 0 rfl 54 0 (ag [ia a3, ib a4]) [ia a3, ib a4] (by kernel_rfl) (by kernel_rfl) (by kernel_rfl) (by kernel_rfl) (by kernel_rfl) (by kernel_rfl) rfl rfl ?_)
 intro w hS
 refine EL.done (by kernel_rfl) ?_
 refine EQ.code ?_
 refine EW.ret (by kernel_rfl) ?_
 simp only [Option.some.injEq, Prod.mk.injEq] at H
 obtain ⟨rfl, rfl⟩ := H
 exact EQ.leaveC hS 0 rfl 4 54 0 2 (ag [ia a3, ib a4]) (by kernel_rfl) (by kernel_rfl) (by kernel_rfl) ⟨_, rfl, rfl, (hS.re [] [0] rfl (sub_self))⟩

/-! ### confidant/confidantref5.Known: function 73 -/
def confidantref5_Known.f (K : Nat) (a0 : Int) : Option Bool := if a0 ≥ 1 then (some (decide (a0 ≤ 26))) else (some false)
set_option maxRecDepth 100000 in
theorem confidantref5_Known.calls {K : Nat} {a0 : Int} {a2 : Bool} {B w : World} {os : List Ass} {rs : List Ro} (H : confidantref5_Known.f K a0 = some a2) (hS : St B w (os) (rs)) :
  Calls Tryd.prog 73 [ia a0].toArray w (fun en w' => ∃ v, en = .returned v ∧ v = .bool (a2) ∧ St B w' (os) (rs)) := by
 unfold confidantref5_Known.f at H
 refine calls_of_EW (args := [ia a0]) (c := Cd73) 9 Tryd.func73 (by kernel_rfl) (by kernel_rfl) (by kernel_rfl) ?_
 refine EW.sq (by kernel_rfl) ?_
 refine EW.rg (by kernel_rfl) ?_
 refine EL.quick 1 [0] [(0, ia a0)] (by kernel_rfl) ?_
 refine EL.done (by kernel_rfl) ?_
 refine EQ.code ?_
 refine EW.sq (by kernel_rfl) ?_
 refine EW.rg (by kernel_rfl) ?_
 refine EL.quick 3 [0, 5] [(0, ia a0), (5, .bool (decide (a0 ≥ 1)))] (by kernel_rfl) ?_
 by_cases a1 : a0 ≥ 1
 ·rw [if_pos a1] at H
  refine EL.keep [0, 5] [(0, ia a0), (5, .bool (decide (a0 ≥ 1)))] (by kernel_rfl) ?_
  refine EL.as' [(0, ia a0), (5, .bool (true))] (by simp only [dec_t a1, Bool.not_true, Bool.not_false]) ?_
  refine EL.quick 4 [2] [(2, .bool (decide (a0 ≤ 26)))] (by kernel_rfl) ?_
  refine EL.done (by kernel_rfl) ?_
  refine EQ.code ?_
  refine EW.ret (by kernel_rfl) ?_
  obtain rfl := Option.some.inj H
  exact EQ.leave (.bool (decide (a0 ≤ 26))) (by kernel_rfl) ⟨_, rfl, rfl, (hS.re [] [] rfl (sub_self))⟩
 rw [if_neg a1] at H
 refine EL.keep [0, 5] [(0, ia a0), (5, .bool (decide (a0 ≥ 1)))] (by kernel_rfl) ?_
 refine EL.as' [(0, ia a0), (5, .bool (false))] (by simp only [dec_f a1, Bool.not_true, Bool.not_false]) ?_
 refine EL.quick 4 [2] [(2, .bool (false))] (by kernel_rfl) ?_
 refine EL.done (by kernel_rfl) ?_
 refine EQ.code ?_
 refine EW.ret (by kernel_rfl) ?_
 obtain rfl := Option.some.inj H
 exact EQ.leave (.bool (false)) (by kernel_rfl) ⟨_, rfl, rfl, (hS.re [] [] rfl (sub_self))⟩

/-! ### confidant/confidantref5.Right: function 38 -/
def confidantref5_Right.f (K : Nat) (a2 : Int) (a0 : Int) : Option Bool := b1 (confidantref5_Arg.f K a2) fun (a3 : Int) => (if a3 = 0 then (b1 (confidantref5_Known.f K a2) fun (a4 : Bool) => (if a4 = true then (some (decide (a0 = 0))) else (some false))) else (if a3 = 1 then (some true) else (some (decide (a0 ≥ 0)))))
set_option maxRecDepth 100000 in
theorem confidantref5_Right.calls {K : Nat} {a2 : Int} {a0 : Int} {a8 : Bool} {B w : World} {os : List Ass} {rs : List Ro} (H : confidantref5_Right.f K a2 a0 = some a8) (hS : St B w (os) (rs)) :
  Calls Tryd.prog 38 [ag [ia a2, ib a0]].toArray w (fun en w' => ∃ v, en = .returned v ∧ v = .bool (a8) ∧ St B w' (os) (rs)) := by
 unfold confidantref5_Right.f at H
 refine calls_of_EW (args := [ag [ia a2, ib a0]]) (c := Cd38) 21 Tryd.func38 (by kernel_rfl) (by kernel_rfl) (by kernel_rfl) ?_
 refine EW.sq (by kernel_rfl) ?_
 refine EW.rg (by kernel_rfl) ?_
 refine EL.of (EO.box hS 54 (ag [ia a2, ib a0]) [ia a2, ib a0] 1 (by kernel_rfl) (by kernel_rfl) (by kernel_rfl) (by first | rfl | kernel_rfl) ?_)
 intro a1 w hS
 refine EL.quick 1 [1] [(1, pt a1 0)] (by kernel_rfl) ?_
 refine EL.done (by kernel_rfl) ?_
 refine EQ.code ?_
 refine EW.sq (by kernel_rfl) ?_
 refine EW.sq (by kernel_rfl) ?_
 refine EW.rg (by kernel_rfl) ?_
 refine EL.quick 1 [1, 3] [(1, pt a1 0), (3, pt a1 0)] (by kernel_rfl) ?_
 refine EL.of (EO.Y (YO.loadBox hS 0 rfl 3 0 1 (ia a2) 4 (by kernel_rfl) (by kernel_rfl) (by kernel_rfl) (by kernel_rfl)) ?_)
 obtain ⟨a3, a9, H⟩ := b1_out H
 have hq := confidantref5_Arg.calls a9 hS
 refine EL.of (EO.callD 71 [ia a2] _ 5 (by kernel_rfl) (by kernel_rfl) (by kernel_rfl) hq ?_)
 rintro v w ⟨rfl, hS⟩
 refine EL.done (by kernel_rfl) ?_
 refine EQ.code ?_
 refine EW.bl 0 (by kernel_rfl) ?_
 refine EW.sq (by kernel_rfl) ?_
 refine EW.rg (by kernel_rfl) ?_
 refine EL.quick 2 [1, 5, 6] [(1, pt a1 0), (5, ia a3), (6, .bool (decide (a3 = 0)))] (by kernel_rfl) ?_
 refine EL.done (by kernel_rfl) ?_
 refine EQ.code ?_
 refine EW.cdP (a3 = 0) (by kernel_rfl) (by kernel_rfl) (fun a6 => ?_) (fun a6 => ?_)
 ·rw [if_pos a6] at H
  refine EW.sq (by kernel_rfl) ?_
  refine EW.rg (by kernel_rfl) ?_
  refine EL.quick 1 [1, 8] [(1, pt a1 0), (8, pt a1 0)] (by kernel_rfl) ?_
  refine EL.of (EO.Y (YO.loadBox hS 0 rfl 3 0 1 (ia a2) 9 (by kernel_rfl) (by kernel_rfl) (by kernel_rfl) (by kernel_rfl)) ?_)
  obtain ⟨a4, b0, H⟩ := b1_out H
  have hq := confidantref5_Known.calls b0 hS
  refine EL.of (EO.callD 73 [ia a2] _ 10 (by kernel_rfl) (by kernel_rfl) (by kernel_rfl) hq ?_)
  rintro v w ⟨rfl, hS⟩
  refine EL.quick 1 [1, 11] [(1, pt a1 0), (11, .bool (a4))] (by kernel_rfl) ?_
  by_cases a5 : a4 = true
  ·rw [if_pos a5] at H
   refine EL.keep [1, 11] [(1, pt a1 0), (11, .bool (a4))] (by kernel_rfl) ?_
   refine EL.as' [(1, pt a1 0), (11, .bool (true))] (by simp only [a5, Bool.not_true, Bool.not_false]) ?_
   refine EL.quick 1 [11, 12] [(11, .bool (true)), (12, pt a1 1)] (by kernel_rfl) ?_
   refine EL.of (EO.Y (YO.loadBox hS 0 rfl 21 1 1 (ib a0) 13 (by kernel_rfl) (by kernel_rfl) (by kernel_rfl) (by kernel_rfl)) ?_)
   refine EL.quick 3 [2] [(2, .bool (decide (a0 = 0)))] (by kernel_rfl) ?_
   refine EL.done (by kernel_rfl) ?_
   refine EQ.code ?_
   refine EW.ret (by kernel_rfl) ?_
   refine EQ.ret ?_
   refine EQ.ret ?_
   obtain rfl := Option.some.inj H
   exact EQ.leave (.bool (decide (a0 = 0))) (by kernel_rfl) ⟨_, rfl, rfl, (hS.re [] [0] rfl (sub_self))⟩
  rw [if_neg a5] at H
  refine EL.keep [1, 11] [(1, pt a1 0), (11, .bool (a4))] (by kernel_rfl) ?_
  refine EL.as' [(1, pt a1 0), (11, .bool (false))] (by simp only [(Bool.eq_false_iff.2 a5), Bool.not_true, Bool.not_false]) ?_
  refine EL.quick 5 [2] [(2, .bool (false))] (by kernel_rfl) ?_
  refine EL.done (by kernel_rfl) ?_
  refine EQ.code ?_
  refine EW.ret (by kernel_rfl) ?_
  refine EQ.ret ?_
  refine EQ.ret ?_
  obtain rfl := Option.some.inj H
  exact EQ.leave (.bool (false)) (by kernel_rfl) ⟨_, rfl, rfl, (hS.re [] [0] rfl (sub_self))⟩
 rw [if_neg a6] at H
 refine EW.sq (by kernel_rfl) ?_
 refine EW.rg (by kernel_rfl) ?_
 refine EL.quick 2 [1, 16] [(1, pt a1 0), (16, .bool (decide (a3 = 1)))] (by kernel_rfl) ?_
 refine EL.done (by kernel_rfl) ?_
 refine EQ.code ?_
 refine EW.cdP (a3 = 1) (by kernel_rfl) (by kernel_rfl) (fun a7 => ?_) (fun a7 => ?_)
 ·rw [if_pos a7] at H
  refine EW.sq (by kernel_rfl) ?_
  refine EW.rg (by kernel_rfl) ?_
  refine EL.quick 1 [2] [(2, .bool (true))] (by kernel_rfl) ?_
  refine EL.done (by kernel_rfl) ?_
  refine EQ.code ?_
  refine EW.ret (by kernel_rfl) ?_
  refine EQ.ret ?_
  refine EQ.ret ?_
  obtain rfl := Option.some.inj H
  exact EQ.leave (.bool (true)) (by kernel_rfl) ⟨_, rfl, rfl, (hS.re [] [0] rfl (sub_self))⟩
 rw [if_neg a7] at H
 refine EW.skip (by kernel_rfl) ?_
 refine EQ.pop ?_
 refine EQ.code ?_
 refine EW.sq (by kernel_rfl) ?_
 refine EW.rg (by kernel_rfl) ?_
 refine EL.quick 1 [18] [(18, pt a1 1)] (by kernel_rfl) ?_
 refine EL.of (EO.Y (YO.loadBox hS 0 rfl 21 1 1 (ib a0) 19 (by kernel_rfl) (by kernel_rfl) (by kernel_rfl) (by kernel_rfl)) ?_)
 refine EL.quick 2 [2] [(2, .bool (decide (a0 ≥ 0)))] (by kernel_rfl) ?_
 refine EL.done (by kernel_rfl) ?_
 refine EQ.code ?_
 refine EW.ret (by kernel_rfl) ?_
 obtain rfl := Option.some.inj H
 exact EQ.leave (.bool (decide (a0 ≥ 0))) (by kernel_rfl) ⟨_, rfl, rfl, (hS.re [] [0] rfl (sub_self))⟩

/-! ### confidant/confidantref1.Put: function 44 -/
def confidantref1_Put.l1 (K : Nat) (b9 : (List Int) → Option (List Int)) : Nat → (List Int) → Int → Option (List Int)
 | 0, _, _ => none
 | n + 1, a9, a7 => if a7 > 0 then (lt ([bO .u8 (IntKind.u8.wrap (bA .u64 a7 127)) 128] : List Int) fun c6 => (if (c6.length + a9.length) * 1 ≤ 140737488355328 then (lt (c6 ++ a9) fun b6 => (confidantref1_Put.l1 K b9 n b6 (sR .u64 a7 7))) else none)) else (b9 a9)
def confidantref1_Put.l0 (K : Nat) (a0 : List Int) : Nat → (List Int) → Int → Option (List Int)
 | 0, _, _ => none
 | n + 1, a3, a1 => if a1 < (a0.length : Int) then (lt (fun (b3 : List Int) (d1 : List Int) => (confidantref1_Put.l0 K a0 n b3 (IntKind.i64.wrap (a1 + 1)))) fun d3 => (if 0 ≤ a1 then (lt ([IntKind.u8.wrap (bA .u64 (a0.getD a1.toNat 0) 127)] : List Int) fun b5 => (lt (fun (b0 : List Int) => (if (a3.length + b0.length) * 1 ≤ 140737488355328 then (lt (a3 ++ b0) fun c0 => (d3 c0 b0)) else none)) fun b9 => (confidantref1_Put.l1 K b9 K b5 (sR .u64 (a0.getD a1.toNat 0) 7)))) else none)) else (some a3)
def confidantref1_Put.f (K : Nat) (a0 : List Int) : Option (List Int) := confidantref1_Put.l0 K a0 K ([] : List Int) 0
set_option maxRecDepth 100000 in
theorem confidantref1_Put.calls {K : Nat} {a0 : List Int} {a8 : Option Addr} {a2 : Nat} {c1 : List Int} {B w : World} {os : List Ass} {rs : List Ro} (H : confidantref1_Put.f K a0 = some c1) (hS : St B w (os) (Ro.sl (Kd.int .u64) a8 a2 a0 :: rs)) :
  Calls Tryd.prog 44 [sv a8 a2 a0].toArray w (fun en w' => ∃ v, en = .returned v ∧ ∃ d4 : Option Addr, ∃ d6 : Nat, v = sv d4 d6 c1 ∧ St B w' (Ass.own 5 (Kd.int .u8) d4 d6 c1 :: os) (Ro.sl (Kd.int .u64) a8 a2 a0 :: rs)) := by
 unfold confidantref1_Put.f at H
 refine calls_of_EW (args := [sv a8 a2 a0]) (c := Cd44) 40 Tryd.func44 (by kernel_rfl) (by kernel_rfl) (by kernel_rfl) ?_
 refine EW.sq (by kernel_rfl) ?_
 refine EW.rg (by kernel_rfl) ?_
 refine EL.quick 1 [0] [(0, sv a8 a2 a0)] (by kernel_rfl) ?_
 refine EL.done (by kernel_rfl) ?_
 refine EQ.code ?_
 refine EW.sq (by kernel_rfl) ?_
 refine EW.rg (by kernel_rfl) ?_
 refine EL.quick 1 [0, 3] [(0, sv a8 a2 a0), (3, sv none 0 ([] : List Int))] (by kernel_rfl) ?_
 refine EL.done (by kernel_rfl) ?_
 refine EQ.code ?_
 refine EW.sq (by kernel_rfl) ?_
 refine EW.sq (by kernel_rfl) ?_
 refine EW.rg (by kernel_rfl) ?_
 refine EL.quick 1 [0, 3, 4] [(0, sv a8 a2 a0), (3, sv none 0 ([] : List Int)), (4, ia 0)] (by kernel_rfl) ?_
 refine EL.done (by kernel_rfl) ?_
 refine EQ.code ?_
 refine EW.bl 0 (by kernel_rfl) ?_
 have hS := St.nilO hS 5 (Kd.int .u8)
 refine EW.lp (fun n a w => ∃ a3 : List Int, ∃ a1 : Int, ∃ a4 : Option Addr, ∃ a5 : Nat, Sat 40 [(0, sv a8 a2 a0), (3, sv a4 a5 a3), (4, ia a1)] a ∧ St B w (Ass.own 5 (Kd.int .u8) a4 a5 a3 :: os) (Ro.sl (Kd.int .u64) a8 a2 a0 :: rs) ∧ confidantref1_Put.l0 K a0 n a3 a1 = some c1) K (by kernel_rfl) ?_ (fun n a w hI => ?_)
 ·refine EQ.keep [0, 3, 4] [(0, sv a8 a2 a0), (3, sv none 0 ([] : List Int)), (4, ia 0)] (by kernel_rfl) ?_
  exact fun a ha => ⟨([] : List Int), 0, none, 0, ha, (hS.re [0] [] rfl (sub_cons 0 rfl (sub_tail (sub_self)))), H⟩
 obtain ⟨a3, a1, a4, a5, ha, hS, H⟩ := hI
 obtain _ | n := n
 ·simp [confidantref1_Put.l0] at H
 rw [confidantref1_Put.l0.eq_2] at H
 refine EW.at ?_ a ha
 clear ha a
 refine EW.sq (by kernel_rfl) ?_
 refine EW.sq (by kernel_rfl) ?_
 refine EW.rg (by kernel_rfl) ?_
 refine EL.quick 4 [0, 3, 4, 10] [(0, sv a8 a2 a0), (3, sv a4 a5 a3), (4, ia a1), (10, .bool (decide (a1 < (a0.length : Int))))] (by kernel_rfl) ?_
 refine EL.done (by kernel_rfl) ?_
 refine EQ.code ?_
 refine EW.cdP (a1 < (a0.length : Int)) (by kernel_rfl) (by kernel_rfl) (fun b4 => ?_) (fun b4 => ?_)
 ·rw [if_pos b4] at H
  refine EW.skip (by kernel_rfl) ?_
  refine EQ.code ?_
  obtain ⟨d3, e3, H⟩ := lt_out H
  refine EW.ct (fun a w => ∃ b3 : List Int, ∃ d1 : List Int, ∃ c2 : Option Addr, ∃ c4 : Nat, ∃ d5 : Option Addr, ∃ d7 : Nat, Sat 40 [(0, sv a8 a2 a0), (3, sv c2 c4 b3), (4, ia a1)] a ∧ St B w (Ass.own 5 (Kd.int .u8) c2 c4 b3 :: Ass.own 5 (Kd.int .u8) d5 d7 d1 :: os) (Ro.sl (Kd.int .u64) a8 a2 a0 :: rs) ∧ d3 b3 d1 = some c1) (by kernel_rfl) ?_ (fun a w hI => ?_)
  ·refine EW.bl 1 (by kernel_rfl) ?_
   refine EW.sq (by kernel_rfl) ?_
   refine EW.rg (by kernel_rfl) ?_
   refine EL.quick 2 [0, 3, 4, 13, 14] [(0, sv a8 a2 a0), (3, sv a4 a5 a3), (4, ia a1), (13, sv a8 a2 a0), (14, ia a1)] (by kernel_rfl) ?_
   obtain ⟨d0, H⟩ := ite_in H
   obtain ⟨a6, rfl⟩ := St.rd_some hS (Rd.ro 0 rfl) d0 b4
   refine EL.of (EO.Y (YO.idx 115 1 a6 a0.length a2 .i64 a1 15 (by kernel_rfl) (by kernel_rfl) (by kernel_rfl) (by kernel_rfl) d0 b4) ?_)
   refine EL.of (EO.Y (YO.loadEl hS (Kd.int .u64) a6 a2 a0 (Rd.ro 0 rfl) 0 (encI .u64) encI_of a1 d0 b4 77 1 0 1 rfl (ic (a0.getD a1.toNat 0)) 16 (by kernel_rfl) (by kernel_rfl) (by kernel_rfl) (by kernel_rfl)) ?_)
   refine EL.quick 2 [0, 3, 4, 18] [(0, sv (some a6) a2 a0), (3, sv a4 a5 a3), (4, ia a1), (18, ig (IntKind.u8.wrap (bA .u64 (a0.getD a1.toNat 0) 127)))] (by kernel_rfl) ?_
   obtain ⟨b5, d9, H⟩ := lt_out H
   refine EL.of (EO.lit hS (Kd.int .u8) 5 33 1 #[(0, ig (IntKind.u8.wrap (bA .u64 (a0.getD a1.toNat 0) 127)))] [ig (IntKind.u8.wrap (bA .u64 (a0.getD a1.toNat 0) 127))] b5 19 (by kernel_rfl) (by kernel_rfl) (by kernel_rfl) (fun _ => (by kernel_rfl)) (by rw [d9]; rfl) (by kernel_rfl) (fun w G hr => (by rw [d9]; exact ⟨[ig (IntKind.u8.wrap (bA .u64 (a0.getD a1.toNat 0) 127))], [], rfl, rfl, rfl⟩)) ?_)
   intro c9 w hS
   refine EL.quick 1 [0, 3, 4, 5] [(0, sv (some a6) a2 a0), (3, sv a4 a5 a3), (4, ia a1), (5, sv (some ⟨c9, 0, none⟩) 1 b5)] (by kernel_rfl) ?_
   refine EL.done (by kernel_rfl) ?_
   refine EQ.code ?_
   obtain ⟨b9, e4, H⟩ := lt_out H
   refine EW.ct (fun a w => ∃ b0 : List Int, ∃ b7 : Option Addr, ∃ b8 : Nat, Sat 40 [(0, sv (some a6) a2 a0), (3, sv a4 a5 a3), (4, ia a1), (5, sv b7 b8 b0)] a ∧ St B w (Ass.own 5 (Kd.int .u8) a4 a5 a3 :: Ass.own 5 (Kd.int .u8) b7 b8 b0 :: os) (Ro.sl (Kd.int .u64) (some a6) a2 a0 :: rs) ∧ b9 b0 = some c1) (by kernel_rfl) ?_ (fun a w hI => ?_)
   ·refine EW.sq (by kernel_rfl) ?_
    refine EW.rg (by kernel_rfl) ?_
    refine EL.quick 2 [0, 3, 4, 5, 20, 21] [(0, sv (some a6) a2 a0), (3, sv a4 a5 a3), (4, ia a1), (5, sv (some ⟨c9, 0, none⟩) 1 b5), (20, sv (some a6) a2 a0), (21, ia a1)] (by kernel_rfl) ?_
    refine EL.of (EO.Y (YO.idx 115 1 a6 a0.length a2 .i64 a1 22 (by kernel_rfl) (by kernel_rfl) (by kernel_rfl) (by kernel_rfl) d0 b4) ?_)
    refine EL.of (EO.Y (YO.loadEl hS (Kd.int .u64) a6 a2 a0 (Rd.ro 0 rfl) 0 (encI .u64) encI_of a1 d0 b4 77 1 0 1 rfl (ic (a0.getD a1.toNat 0)) 23 (by kernel_rfl) (by kernel_rfl) (by kernel_rfl) (by kernel_rfl)) ?_)
    refine EL.quick 2 [0, 3, 4, 5, 6] [(0, sv (some a6) a2 a0), (3, sv a4 a5 a3), (4, ia a1), (5, sv (some ⟨c9, 0, none⟩) 1 b5), (6, ic (sR .u64 (a0.getD a1.toNat 0) 7))] (by kernel_rfl) ?_
    refine EL.done (by kernel_rfl) ?_
    refine EQ.code ?_
    refine EW.bl 2 (by kernel_rfl) ?_
    refine EW.lp (fun n a w => ∃ a9 : List Int, ∃ a7 : Int, ∃ b1 : Option Addr, ∃ b2 : Nat, Sat 40 [(0, sv (some a6) a2 a0), (3, sv a4 a5 a3), (4, ia a1), (5, sv b1 b2 a9), (6, ic a7)] a ∧ St B w (Ass.own 5 (Kd.int .u8) a4 a5 a3 :: Ass.own 5 (Kd.int .u8) b1 b2 a9 :: os) (Ro.sl (Kd.int .u64) (some a6) a2 a0 :: rs) ∧ confidantref1_Put.l1 K b9 n a9 a7 = some c1) K (by kernel_rfl) ?_ (fun n a w hI => ?_)
    ·refine EQ.keep [0, 3, 4, 5, 6] [(0, sv (some a6) a2 a0), (3, sv a4 a5 a3), (4, ia a1), (5, sv (some ⟨c9, 0, none⟩) 1 b5), (6, ic (sR .u64 (a0.getD a1.toNat 0) 7))] (by kernel_rfl) ?_
     exact fun a ha => ⟨b5, sR .u64 (a0.getD a1.toNat 0) 7, (some ⟨c9, 0, none⟩), 1, ha, (hS.re [0, 1] [] rfl (sub_cons 0 rfl (sub_tail (sub_self)))), H⟩
    obtain ⟨a9, a7, b1, b2, ha, hS, H⟩ := hI
    obtain _ | n := n
    ·simp [confidantref1_Put.l1] at H
    rw [confidantref1_Put.l1.eq_2] at H
    refine EW.at ?_ a ha
    clear ha a
    refine EW.sq (by kernel_rfl) ?_
    refine EW.sq (by kernel_rfl) ?_
    refine EW.rg (by kernel_rfl) ?_
    refine EL.quick 2 [0, 3, 4, 5, 6, 26] [(0, sv (some a6) a2 a0), (3, sv a4 a5 a3), (4, ia a1), (5, sv b1 b2 a9), (6, ic a7), (26, .bool (decide (a7 > 0)))] (by kernel_rfl) ?_
    refine EL.done (by kernel_rfl) ?_
    refine EQ.code ?_
    refine EW.cdP (a7 > 0) (by kernel_rfl) (by kernel_rfl) (fun d2 => ?_) (fun d2 => ?_)
    ·rw [if_pos d2] at H
     refine EW.skip (by kernel_rfl) ?_
     refine EQ.code ?_
     refine EW.sq (by kernel_rfl) ?_
     refine EW.bl 3 (by kernel_rfl) ?_
     refine EW.rg (by kernel_rfl) ?_
     refine EL.quick 4 [0, 3, 4, 5, 6, 32] [(0, sv (some a6) a2 a0), (3, sv a4 a5 a3), (4, ia a1), (5, sv b1 b2 a9), (6, ic a7), (32, ig (bO .u8 (IntKind.u8.wrap (bA .u64 a7 127)) 128))] (by kernel_rfl) ?_
     obtain ⟨c6, e0, H⟩ := lt_out H
     refine EL.of (EO.lit hS (Kd.int .u8) 5 33 1 #[(0, ig (bO .u8 (IntKind.u8.wrap (bA .u64 a7 127)) 128))] [ig (bO .u8 (IntKind.u8.wrap (bA .u64 a7 127)) 128)] c6 33 (by kernel_rfl) (by kernel_rfl) (by kernel_rfl) (fun _ => (by kernel_rfl)) (by rw [e0]; rfl) (by kernel_rfl) (fun w G hr => (by rw [e0]; exact ⟨[ig (bO .u8 (IntKind.u8.wrap (bA .u64 a7 127)) 128)], [], rfl, rfl, rfl⟩)) ?_)
     intro d8 w hS
     refine EL.quick 1 [0, 3, 4, 6, 33, 34] [(0, sv (some a6) a2 a0), (3, sv a4 a5 a3), (4, ia a1), (6, ic a7), (33, sv (some ⟨d8, 0, none⟩) 1 c6), (34, sv b1 b2 a9)] (by kernel_rfl) ?_
     obtain ⟨e1, H⟩ := ite_in H
     obtain ⟨b6, e5, H⟩ := lt_out H
     refine EL.of (EO.append hS 33 33 5 1 0 (Kd.int .u8) (some ⟨d8, 0, none⟩) 1 c6 rfl b1 b2 a9 (Rd.own 2 5 rfl) b6 e5 (fun c3 c5 => Ass.own 5 (Kd.int .u8) c3 c5 b6 :: Ass.own 5 (Kd.int .u8) a4 a5 a3 :: Ass.own 5 (Kd.int .u8) b1 b2 a9 :: os) 35 (by kernel_rfl) (by kernel_rfl) (by kernel_rfl) (by kernel_rfl) e1 (fun _ _ => rfl) ?_)
     intro c3 c5 w hS
     refine EL.quick 1 [0, 3, 4, 5, 6] [(0, sv (some a6) a2 a0), (3, sv a4 a5 a3), (4, ia a1), (5, sv c3 c5 b6), (6, ic a7)] (by kernel_rfl) ?_
     refine EL.done (by kernel_rfl) ?_
     refine EQ.pop ?_
     refine EQ.code ?_
     refine EW.rg (by kernel_rfl) ?_
     refine EL.quick 3 [0, 3, 4, 5, 6] [(0, sv (some a6) a2 a0), (3, sv a4 a5 a3), (4, ia a1), (5, sv c3 c5 b6), (6, ic (sR .u64 a7 7))] (by kernel_rfl) ?_
     refine EL.done (by kernel_rfl) ?_
     refine EQ.to ?_
     refine EQ.keep [0, 3, 4, 5, 6] [(0, sv (some a6) a2 a0), (3, sv a4 a5 a3), (4, ia a1), (5, sv c3 c5 b6), (6, ic (sR .u64 a7 7))] (by kernel_rfl) ?_
     exact fun a ha => ⟨n, Nat.lt_succ_self n, b6, sR .u64 a7 7, c3, c5, ha, (hS.re [0, 1] [2] rfl (sub_cons 0 rfl (sub_tail (sub_self)))), H⟩
    rw [if_neg d2] at H
    refine EW.exit (id := 2) (by kernel_rfl) ?_
    refine EQ.exitCode ?_
    refine EQ.exitTo ?_
    refine EQ.exitHere ?_
    refine EQ.to ?_
    refine EQ.keep [0, 3, 4, 5] [(0, sv (some a6) a2 a0), (3, sv a4 a5 a3), (4, ia a1), (5, sv b1 b2 a9)] (by kernel_rfl) ?_
    exact fun a ha => ⟨a9, b1, b2, ha, (hS.re [1, 1] [] rfl (sub_cons 0 rfl (sub_tail (sub_self)))), H⟩
   obtain ⟨b0, b7, b8, ha, hS, H⟩ := hI
   rw [e4] at H
   (try dsimp only at H)
   refine EW.at ?_ a ha
   clear ha a
   refine EW.rg (by kernel_rfl) ?_
   refine EL.quick 2 [0, 4, 36, 37] [(0, sv (some a6) a2 a0), (4, ia a1), (36, sv a4 a5 a3), (37, sv b7 b8 b0)] (by kernel_rfl) ?_
   obtain ⟨e2, H⟩ := ite_in H
   obtain ⟨c0, e6, H⟩ := lt_out H
   refine EL.of (EO.append hS 33 33 5 1 0 (Kd.int .u8) a4 a5 a3 rfl b7 b8 b0 (Rd.own 1 5 rfl) c0 e6 (fun c7 c8 => Ass.own 5 (Kd.int .u8) c7 c8 c0 :: Ass.own 5 (Kd.int .u8) b7 b8 b0 :: os) 38 (by kernel_rfl) (by kernel_rfl) (by kernel_rfl) (by kernel_rfl) e2 (fun _ _ => rfl) ?_)
   intro c7 c8 w hS
   refine EL.quick 1 [0, 3, 4] [(0, sv (some a6) a2 a0), (3, sv c7 c8 c0), (4, ia a1)] (by kernel_rfl) ?_
   refine EL.done (by kernel_rfl) ?_
   refine EQ.pop ?_
   refine EQ.to ?_
   refine EQ.keep [0, 3, 4] [(0, sv (some a6) a2 a0), (3, sv c7 c8 c0), (4, ia a1)] (by kernel_rfl) ?_
   exact fun a ha => ⟨c0, b0, c7, c8, b7, b8, ha, (hS.re [1, 1] [] rfl (sub_cons 0 rfl (sub_tail (sub_self)))), H⟩
  obtain ⟨b3, d1, c2, c4, d5, d7, ha, hS, H⟩ := hI
  rw [e3] at H
  (try dsimp only at H)
  refine EW.at ?_ a ha
  clear ha a
  refine EW.rg (by kernel_rfl) ?_
  refine EL.quick 3 [0, 3, 4] [(0, sv a8 a2 a0), (3, sv c2 c4 b3), (4, ia (IntKind.i64.wrap (a1 + 1)))] (by kernel_rfl) ?_
  refine EL.done (by kernel_rfl) ?_
  refine EQ.to ?_
  refine EQ.keep [0, 3, 4] [(0, sv a8 a2 a0), (3, sv c2 c4 b3), (4, ia (IntKind.i64.wrap (a1 + 1)))] (by kernel_rfl) ?_
  exact fun a ha => ⟨n, Nat.lt_succ_self n, b3, IntKind.i64.wrap (a1 + 1), c2, c4, ha, (hS.re [0] [1] rfl (sub_cons 0 rfl (sub_tail (sub_self)))), H⟩
 rw [if_neg b4] at H
 refine EW.exit (id := 0) (by kernel_rfl) ?_
 refine EQ.exitCode ?_
 refine EQ.exitTo ?_
 refine EQ.exitHere ?_
 refine EQ.code ?_
 refine EW.sq (by kernel_rfl) ?_
 refine EW.rg (by kernel_rfl) ?_
 refine EL.quick 2 [2] [(2, sv a4 a5 a3)] (by kernel_rfl) ?_
 refine EL.done (by kernel_rfl) ?_
 refine EQ.code ?_
 refine EW.ret (by kernel_rfl) ?_
 obtain rfl := Option.some.inj H
 exact EQ.leave (sv a4 a5 a3) (by kernel_rfl) ⟨_, rfl, a4, a5, rfl, (hS.re [0] [] rfl (sub_self))⟩

/-! ### confidant/confidantref1.Int: function 45 -/
def confidantref1_Int.f (K : Nat) (a0 : Int) : Option Int := some (IntKind.u64.wrap (IntKind.u32.wrap a0))
set_option maxRecDepth 100000 in
theorem confidantref1_Int.calls {K : Nat} {a0 : Int} {a1 : Int} {B w : World} {os : List Ass} {rs : List Ro} (H : confidantref1_Int.f K a0 = some a1) (hS : St B w (os) (rs)) :
  Calls Tryd.prog 45 [ib a0].toArray w (fun en w' => ∃ v, en = .returned v ∧ v = ic a1 ∧ St B w' (os) (rs)) := by
 unfold confidantref1_Int.f at H
 refine calls_of_EW (args := [ib a0]) (c := Cd45) 6 Tryd.func45 (by kernel_rfl) (by kernel_rfl) (by kernel_rfl) ?_
 refine EW.sq (by kernel_rfl) ?_
 refine EW.rg (by kernel_rfl) ?_
 refine EL.quick 1 [0] [(0, ib a0)] (by kernel_rfl) ?_
 refine EL.done (by kernel_rfl) ?_
 refine EQ.code ?_
 refine EW.sq (by kernel_rfl) ?_
 refine EW.rg (by kernel_rfl) ?_
 refine EL.quick 4 [2] [(2, ic (IntKind.u64.wrap (IntKind.u32.wrap a0)))] (by kernel_rfl) ?_
 refine EL.done (by kernel_rfl) ?_
 refine EQ.code ?_
 refine EW.ret (by kernel_rfl) ?_
 obtain rfl := Option.some.inj H
 exact EQ.leave (ic (IntKind.u64.wrap (IntKind.u32.wrap a0))) (by kernel_rfl) ⟨_, rfl, rfl, (hS.re [] [] rfl (sub_self))⟩

/-! ### confidant/confidantref5.Put: function 37 -/
def confidantref5_Put.f (K : Nat) (a0 : Int) (a1 : Int) : Option (List Int) := b1 (confidantref5_Right.f K a0 a1) fun (a6 : Bool) => (if a6 = true then (b1 (confidantref5_Arg.f K a0) fun (a7 : Int) => (if a7 = 0 then (lt ([IntKind.u64.wrap a0] : List Int) fun a4 => (b1 (confidantref1_Put.f K a4) fun (a8 : List Int) => (some a8))) else (b1 (confidantref1_Int.f K a1) fun (a3 : Int) => (lt ([IntKind.u64.wrap a0, a3] : List Int) fun a5 => (b1 (confidantref1_Put.f K a5) fun (a9 : List Int) => (some a9)))))) else (some ([] : List Int)))
set_option maxRecDepth 100000 in
theorem confidantref5_Put.calls {K : Nat} {a0 : Int} {a1 : Int} {b7 : List Int} {B w : World} {os : List Ass} {rs : List Ro} (H : confidantref5_Put.f K a0 a1 = some b7) (hS : St B w (os) (rs)) :
  Calls Tryd.prog 37 [ag [ia a0, ib a1]].toArray w (fun en w' => ∃ v, en = .returned v ∧ ∃ b8 : Option Addr, ∃ b9 : Nat, v = sv b8 b9 b7 ∧ St B w' (Ass.own 5 (Kd.int .u8) b8 b9 b7 :: os) (rs)) := by
 unfold confidantref5_Put.f at H
 refine calls_of_EW (args := [ag [ia a0, ib a1]]) (c := Cd37) 25 Tryd.func37 (by kernel_rfl) (by kernel_rfl) (by kernel_rfl) ?_
 refine EW.sq (by kernel_rfl) ?_
 refine EW.rg (by kernel_rfl) ?_
 refine EL.of (EO.box hS 54 (ag [ia a0, ib a1]) [ia a0, ib a1] 1 (by kernel_rfl) (by kernel_rfl) (by kernel_rfl) (by first | rfl | kernel_rfl) ?_)
 intro a2 w hS
 refine EL.quick 1 [1] [(1, pt a2 0)] (by kernel_rfl) ?_
 refine EL.done (by kernel_rfl) ?_
 refine EQ.code ?_
 refine EW.sq (by kernel_rfl) ?_
 refine EW.bl 0 (by kernel_rfl) ?_
 refine EW.sq (by kernel_rfl) ?_
 refine EW.rg (by kernel_rfl) ?_
 refine EL.of (EO.Y (YO.loadBox hS 0 rfl 54 0 2 (ag [ia a0, ib a1]) 4 (by kernel_rfl) (by kernel_rfl) (by kernel_rfl) (by kernel_rfl)) ?_)
 obtain ⟨a6, c4, H⟩ := b1_out H
 have hq := confidantref5_Right.calls c4 hS
 refine EL.of (EO.callD 38 [ag [ia a0, ib a1]] _ 5 (by kernel_rfl) (by kernel_rfl) (by kernel_rfl) hq ?_)
 rintro v w ⟨rfl, hS⟩
 refine EL.quick 2 [1, 3] [(1, pt a2 0), (3, .bool (!(a6)))] (by kernel_rfl) ?_
 refine EL.done (by kernel_rfl) ?_
 refine EQ.code ?_
 refine EW.cdQ (b := !(a6)) (a6 = true) (false) (by kernel_rfl) (by kernel_rfl) ⟨fun h => (by rw [h] <;> rfl), fun h => (by rw [Bool.eq_false_iff.2 h] <;> rfl)⟩ (fun b5 => ?_) (fun b5 => ?_)
 ·rw [if_pos b5] at H
  refine EW.sq (by kernel_rfl) ?_
  refine EW.rg (by kernel_rfl) ?_
  refine EL.quick 1 [1, 8] [(1, pt a2 0), (8, pt a2 0)] (by kernel_rfl) ?_
  refine EL.of (EO.Y (YO.loadBox hS 0 rfl 3 0 1 (ia a0) 9 (by kernel_rfl) (by kernel_rfl) (by kernel_rfl) (by kernel_rfl)) ?_)
  obtain ⟨a7, c5, H⟩ := b1_out H
  have hq := confidantref5_Arg.calls c5 hS
  refine EL.of (EO.callD 71 [ia a0] _ 10 (by kernel_rfl) (by kernel_rfl) (by kernel_rfl) hq ?_)
  rintro v w ⟨rfl, hS⟩
  refine EL.quick 2 [1, 7] [(1, pt a2 0), (7, .bool (decide (a7 = 0)))] (by kernel_rfl) ?_
  refine EL.done (by kernel_rfl) ?_
  refine EQ.code ?_
  refine EW.cdP (a7 = 0) (by kernel_rfl) (by kernel_rfl) (fun b6 => ?_) (fun b6 => ?_)
  ·rw [if_pos b6] at H
   refine EW.sq (by kernel_rfl) ?_
   refine EW.rg (by kernel_rfl) ?_
   refine EL.quick 1 [12] [(12, pt a2 0)] (by kernel_rfl) ?_
   refine EL.of (EO.Y (YO.loadBox hS 0 rfl 3 0 1 (ia a0) 13 (by kernel_rfl) (by kernel_rfl) (by kernel_rfl) (by kernel_rfl)) ?_)
   refine EL.quick 1 [14] [(14, ic (IntKind.u64.wrap a0))] (by kernel_rfl) ?_
   obtain ⟨a4, c2, H⟩ := lt_out H
   refine EL.of (EO.lit hS (Kd.int .u64) 77 115 1 #[(0, ic (IntKind.u64.wrap a0))] [ic (IntKind.u64.wrap a0)] a4 15 (by kernel_rfl) (by kernel_rfl) (by kernel_rfl) (fun _ => (by kernel_rfl)) (by rw [c2]; rfl) (by kernel_rfl) (fun w G hr => (by rw [c2]; exact ⟨[ic (IntKind.u64.wrap a0)], [], rfl, rfl, rfl⟩)) ?_)
   intro c0 w hS
   have hS := St.fr hS 0 rfl
   have hS : St B _ (Ass.box 54 a2 [ia a0, ib a1] :: os) (Ro.sl (Kd.int .u64) (some ⟨c0, 0, none⟩) 1 a4 :: rs) := hS.re [] [] rfl (sub_cons 0 rfl (sub_tail (sub_self)))
   obtain ⟨a8, c6, H⟩ := b1_out H
   have hq := confidantref1_Put.calls c6 hS
   refine EL.of (EO.callD 44 [sv (some ⟨c0, 0, none⟩) 1 a4] _ 16 (by kernel_rfl) (by kernel_rfl) (by kernel_rfl) hq ?_)
   rintro v w ⟨b0, b3, rfl, hS⟩
   refine EL.quick 1 [2] [(2, sv b0 b3 a8)] (by kernel_rfl) ?_
   refine EL.done (by kernel_rfl) ?_
   refine EQ.code ?_
   refine EW.ret (by kernel_rfl) ?_
   refine EQ.ret ?_
   refine EQ.ret ?_
   obtain rfl := Option.some.inj H
   exact EQ.leave (sv b0 b3 a8) (by kernel_rfl) ⟨_, rfl, b0, b3, rfl, (hS.re [0] [1] rfl (sub_tail (sub_self)))⟩
  rw [if_neg b6] at H
  refine EW.skip (by kernel_rfl) ?_
  refine EQ.pop ?_
  refine EQ.code ?_
  refine EW.sq (by kernel_rfl) ?_
  obtain ⟨a3, c7, H⟩ := b1_out H
  obtain ⟨a5, c3, H⟩ := lt_out H
  obtain ⟨a9, c8, H⟩ := b1_out H
  have hS := hS.drew
  refine EW.dr (B := B) [Ass.box 54 a2 [ia a0, ib a1]] [] (by kernel_rfl) (by kernel_rfl) ?_
  have hN : Region.noSelect Cd37.r.r.l.ops = true := (by kernel_rfl)
  have hF : freeAll Cd37.r.r.l.ops = true := (by kernel_rfl)
  have hC : Core B [Ass.box 54 a2 [ia a0, ib a1]] [] _ := ⟨_, _, hS⟩
  refine ED.quick hN hF hC [0, 3] [17, 20] 7 [(17, pt a2 0), (20, pt a2 1)] (bm 9 9) (by kernel_rfl) (by kernel_rfl) ?_
  refine ED.Y hN hF hC 1 6 (bm 9 11) (by kernel_rfl) (by kernel_rfl) rfl (fun _ _ _ hS => YO.loadBox hS 0 rfl 3 0 1 (ia a0) 18 (by kernel_rfl) (by kernel_rfl) (by kernel_rfl) (by kernel_rfl)) ?_
  refine ED.quick hN hF hC [2] [19, 20] 5 [(19, ic (IntKind.u64.wrap a0)), (20, pt a2 1)] (bm 9 15) (by kernel_rfl) (by kernel_rfl) ?_
  refine ED.Y hN hF hC 4 4 (bm 9 31) (by kernel_rfl) (by kernel_rfl) rfl (fun _ _ _ hS => YO.loadBox hS 0 rfl 21 1 1 (ib a1) 21 (by kernel_rfl) (by kernel_rfl) (by kernel_rfl) (by kernel_rfl)) ?_
  have hq := confidantref1_Int.calls c7 hS
  refine ED.one 5 3 (bm 9 63) (by kernel_rfl) (by kernel_rfl) (by kernel_rfl) (EO.callD 45 [ib a1] _ 22 (by kernel_rfl) (by kernel_rfl) (by kernel_rfl) hq ?_)
  rintro v w ⟨rfl, hS⟩
  have hC := hC.again ⟨_, _, hS⟩
  refine ⟨hC, ?_⟩
  refine ED.one 6 2 (bm 9 127) (by kernel_rfl) (by kernel_rfl) (by kernel_rfl) (EO.lit hS (Kd.int .u64) 77 115 2 #[(0, ic (IntKind.u64.wrap a0)), (1, ic a3)] [ic (IntKind.u64.wrap a0), ic a3] a5 23 (by kernel_rfl) (by kernel_rfl) (by kernel_rfl) (fun _ => (by kernel_rfl)) (by rw [c3]; rfl) (by kernel_rfl) (fun w G hr => (by rw [c3]; exact ⟨[ic (IntKind.u64.wrap a0)], [ic a3], rfl, rfl, ⟨[ic a3], [], rfl, rfl, rfl⟩⟩)) ?_)
  intro c1 w hS
  have hC := hC.again ⟨_, _, hS.re [1] [] rfl sub_self⟩
  refine ⟨hC, ?_⟩
  have hS := St.fr hS 0 rfl
  have hS : St B _ (Ass.box 54 a2 [ia a0, ib a1] :: os) (Ro.sl (Kd.int .u64) (some ⟨c1, 0, none⟩) 2 a5 :: rs) := hS.re [] [] rfl (sub_cons 0 rfl (sub_tail (sub_self)))
  have hq := confidantref1_Put.calls c8 hS
  refine ED.one 7 1 (bm 9 255) (by kernel_rfl) (by kernel_rfl) (by kernel_rfl) (EO.callD 44 [sv (some ⟨c1, 0, none⟩) 2 a5] _ 24 (by kernel_rfl) (by kernel_rfl) (by kernel_rfl) hq ?_)
  rintro v w ⟨b2, b4, rfl, hS⟩
  have hC := hC.again ⟨_, _, hS.re [1] [] rfl sub_self⟩
  refine ⟨hC, ?_⟩
  refine ED.quick hN hF hC [8] [2] 0 [(2, sv b2 b4 a9)] (bm 9 511) (by kernel_rfl) (by kernel_rfl) ?_
  refine ED.done (by kernel_rfl) ?_
  refine EQ.code ?_
  refine EW.ret (by kernel_rfl) ?_
  obtain rfl := Option.some.inj H
  exact EQ.leave (sv b2 b4 a9) (by kernel_rfl) ⟨_, rfl, b2, b4, rfl, (hS.re [0] [1] rfl (sub_tail (sub_self)))⟩
 rw [if_neg b5] at H
 refine EW.sq (by kernel_rfl) ?_
 refine EW.rg (by kernel_rfl) ?_
 refine EL.quick 1 [2] [(2, sv none 0 ([] : List Int))] (by kernel_rfl) ?_
 refine EL.done (by kernel_rfl) ?_
 refine EQ.code ?_
 refine EW.ret (by kernel_rfl) ?_
 refine EQ.ret ?_
 refine EQ.ret ?_
 have hS := St.nilO hS 5 (Kd.int .u8)
 obtain rfl := Option.some.inj H
 exact EQ.leave (sv none 0 ([] : List Int)) (by kernel_rfl) ⟨_, rfl, none, 0, rfl, (hS.re [0] [1] rfl (sub_self))⟩

/-! ### confidant/confidantref5.names: function 90 -/
def confidantref5_names.f (K : Nat)  : Option (List ByteArray) := lt ([(⟨#[112, 117, 115, 104]⟩ : ByteArray), (⟨#[112, 111, 112]⟩ : ByteArray), (⟨#[100, 117, 112]⟩ : ByteArray), (⟨#[97, 100, 100]⟩ : ByteArray), (⟨#[115, 117, 98]⟩ : ByteArray), (⟨#[109, 117, 108]⟩ : ByteArray), (⟨#[100, 105, 118]⟩ : ByteArray), (⟨#[108, 101, 115, 115]⟩ : ByteArray), (⟨#[101, 113]⟩ : ByteArray), (⟨#[106, 117, 109, 112]⟩ : ByteArray), (⟨#[106, 117, 109, 112, 122]⟩ : ByteArray), (⟨#[108, 111, 97, 100]⟩ : ByteArray), (⟨#[115, 116, 111, 114, 101]⟩ : ByteArray), (⟨#[108, 97, 98, 101, 108]⟩ : ByteArray), (⟨#[114, 97, 105, 115, 101]⟩ : ByteArray), (⟨#[105, 110, 112, 117, 116]⟩ : ByteArray), (⟨#[110, 101, 119]⟩ : ByteArray), (⟨#[114, 101, 97, 100]⟩ : ByteArray), (⟨#[119, 114, 105, 116, 101]⟩ : ByteArray), (⟨#[102, 111, 114, 107]⟩ : ByteArray), (⟨#[119, 97, 105, 116]⟩ : ByteArray), (⟨#[101, 109, 105, 116]⟩ : ByteArray), (⟨#[114, 101, 108, 101, 97, 115, 101]⟩ : ByteArray), (⟨#[116, 97, 107, 101]⟩ : ByteArray), (⟨#[114, 101, 116]⟩ : ByteArray), (⟨#[102, 97, 105, 108]⟩ : ByteArray)] : List ByteArray) fun a0 => (some a0)
set_option maxRecDepth 100000 in
theorem confidantref5_names.calls {K : Nat} {a2 : List ByteArray} {B w : World} {os : List Ass} {rs : List Ro} (H : confidantref5_names.f K = some a2) (hS : St B w (os) (rs)) :
  Calls Tryd.prog 90 [].toArray w (fun en w' => ∃ v, en = .returned v ∧ ∃ a3 : Option Addr, ∃ a4 : Nat, v = sv a3 a4 a2 ∧ St B w' (Ass.own 9 Kd.str a3 a4 a2 :: os) (rs)) := by
 unfold confidantref5_names.f at H
 refine calls_of_EW (args := []) (c := Cd90) 2 Tryd.func90 (by kernel_rfl) (by kernel_rfl) (by kernel_rfl) ?_
 refine EW.sq (by kernel_rfl) ?_
 refine EW.rg (by kernel_rfl) ?_
 refine EL.quick 1 [] [] (by kernel_rfl) ?_
 refine EL.done (by kernel_rfl) ?_
 refine EQ.code ?_
 refine EW.sq (by kernel_rfl) ?_
 refine EW.rg (by kernel_rfl) ?_
 obtain ⟨a0, a5, H⟩ := lt_out H
 refine EL.of (EO.lit hS Kd.str 9 68 26 #[(0, .string (⟨#[112, 117, 115, 104]⟩ : ByteArray)), (1, .string (⟨#[112, 111, 112]⟩ : ByteArray)), (2, .string (⟨#[100, 117, 112]⟩ : ByteArray)), (3, .string (⟨#[97, 100, 100]⟩ : ByteArray)), (4, .string (⟨#[115, 117, 98]⟩ : ByteArray)), (5, .string (⟨#[109, 117, 108]⟩ : ByteArray)), (6, .string (⟨#[100, 105, 118]⟩ : ByteArray)), (7, .string (⟨#[108, 101, 115, 115]⟩ : ByteArray)), (8, .string (⟨#[101, 113]⟩ : ByteArray)), (9, .string (⟨#[106, 117, 109, 112]⟩ : ByteArray)), (10, .string (⟨#[106, 117, 109, 112, 122]⟩ : ByteArray)), (11, .string (⟨#[108, 111, 97, 100]⟩ : ByteArray)), (12, .string (⟨#[115, 116, 111, 114, 101]⟩ : ByteArray)), (13, .string (⟨#[108, 97, 98, 101, 108]⟩ : ByteArray)), (14, .string (⟨#[114, 97, 105, 115, 101]⟩ : ByteArray)), (15, .string (⟨#[105, 110, 112, 117, 116]⟩ : ByteArray)), (16, .string (⟨#[110, 101, 119]⟩ : ByteArray)), (17, .string (⟨#[114, 101, 97, 100]⟩ : ByteArray)), (18, .string (⟨#[119, 114, 105, 116, 101]⟩ : ByteArray)), (19, .string (⟨#[102, 111, 114, 107]⟩ : ByteArray)), (20, .string (⟨#[119, 97, 105, 116]⟩ : ByteArray)), (21, .string (⟨#[101, 109, 105, 116]⟩ : ByteArray)), (22, .string (⟨#[114, 101, 108, 101, 97, 115, 101]⟩ : ByteArray)), (23, .string (⟨#[116, 97, 107, 101]⟩ : ByteArray)), (24, .string (⟨#[114, 101, 116]⟩ : ByteArray)), (25, .string (⟨#[102, 97, 105, 108]⟩ : ByteArray))] [.string (⟨#[112, 117, 115, 104]⟩ : ByteArray), .string (⟨#[112, 111, 112]⟩ : ByteArray), .string (⟨#[100, 117, 112]⟩ : ByteArray), .string (⟨#[97, 100, 100]⟩ : ByteArray), .string (⟨#[115, 117, 98]⟩ : ByteArray), .string (⟨#[109, 117, 108]⟩ : ByteArray), .string (⟨#[100, 105, 118]⟩ : ByteArray), .string (⟨#[108, 101, 115, 115]⟩ : ByteArray), .string (⟨#[101, 113]⟩ : ByteArray), .string (⟨#[106, 117, 109, 112]⟩ : ByteArray), .string (⟨#[106, 117, 109, 112, 122]⟩ : ByteArray), .string (⟨#[108, 111, 97, 100]⟩ : ByteArray), .string (⟨#[115, 116, 111, 114, 101]⟩ : ByteArray), .string (⟨#[108, 97, 98, 101, 108]⟩ : ByteArray), .string (⟨#[114, 97, 105, 115, 101]⟩ : ByteArray), .string (⟨#[105, 110, 112, 117, 116]⟩ : ByteArray), .string (⟨#[110, 101, 119]⟩ : ByteArray), .string (⟨#[114, 101, 97, 100]⟩ : ByteArray), .string (⟨#[119, 114, 105, 116, 101]⟩ : ByteArray), .string (⟨#[102, 111, 114, 107]⟩ : ByteArray), .string (⟨#[119, 97, 105, 116]⟩ : ByteArray), .string (⟨#[101, 109, 105, 116]⟩ : ByteArray), .string (⟨#[114, 101, 108, 101, 97, 115, 101]⟩ : ByteArray), .string (⟨#[116, 97, 107, 101]⟩ : ByteArray), .string (⟨#[114, 101, 116]⟩ : ByteArray), .string (⟨#[102, 97, 105, 108]⟩ : ByteArray)] a0 1 (by kernel_rfl) (by kernel_rfl) (by kernel_rfl) (fun _ => (by kernel_rfl)) (by rw [a5]; rfl) (by kernel_rfl) (fun w G hr => (by rw [a5]; exact ⟨[.string (⟨#[112, 117, 115, 104]⟩ : ByteArray)], [.string (⟨#[112, 111, 112]⟩ : ByteArray), .string (⟨#[100, 117, 112]⟩ : ByteArray), .string (⟨#[97, 100, 100]⟩ : ByteArray), .string (⟨#[115, 117, 98]⟩ : ByteArray), .string (⟨#[109, 117, 108]⟩ : ByteArray), .string (⟨#[100, 105, 118]⟩ : ByteArray), .string (⟨#[108, 101, 115, 115]⟩ : ByteArray), .string (⟨#[101, 113]⟩ : ByteArray), .string (⟨#[106, 117, 109, 112]⟩ : ByteArray), .string (⟨#[106, 117, 109, 112, 122]⟩ : ByteArray), .string (⟨#[108, 111, 97, 100]⟩ : ByteArray), .string (⟨#[115, 116, 111, 114, 101]⟩ : ByteArray), .string (⟨#[108, 97, 98, 101, 108]⟩ : ByteArray), .string (⟨#[114, 97, 105, 115, 101]⟩ : ByteArray), .string (⟨#[105, 110, 112, 117, 116]⟩ : ByteArray), .string (⟨#[110, 101, 119]⟩ : ByteArray), .string (⟨#[114, 101, 97, 100]⟩ : ByteArray), .string (⟨#[119, 114, 105, 116, 101]⟩ : ByteArray), .string (⟨#[102, 111, 114, 107]⟩ : ByteArray), .string (⟨#[119, 97, 105, 116]⟩ : ByteArray), .string (⟨#[101, 109, 105, 116]⟩ : ByteArray), .string (⟨#[114, 101, 108, 101, 97, 115, 101]⟩ : ByteArray), .string (⟨#[116, 97, 107, 101]⟩ : ByteArray), .string (⟨#[114, 101, 116]⟩ : ByteArray), .string (⟨#[102, 97, 105, 108]⟩ : ByteArray)], rfl, rfl, ⟨[.string (⟨#[112, 111, 112]⟩ : ByteArray)], [.string (⟨#[100, 117, 112]⟩ : ByteArray), .string (⟨#[97, 100, 100]⟩ : ByteArray), .string (⟨#[115, 117, 98]⟩ : ByteArray), .string (⟨#[109, 117, 108]⟩ : ByteArray), .string (⟨#[100, 105, 118]⟩ : ByteArray), .string (⟨#[108, 101, 115, 115]⟩ : ByteArray), .string (⟨#[101, 113]⟩ : ByteArray), .string (⟨#[106, 117, 109, 112]⟩ : ByteArray), .string (⟨#[106, 117, 109, 112, 122]⟩ : ByteArray), .string (⟨#[108, 111, 97, 100]⟩ : ByteArray), .string (⟨#[115, 116, 111, 114, 101]⟩ : ByteArray), .string (⟨#[108, 97, 98, 101, 108]⟩ : ByteArray), .string (⟨#[114, 97, 105, 115, 101]⟩ : ByteArray), .string (⟨#[105, 110, 112, 117, 116]⟩ : ByteArray), .string (⟨#[110, 101, 119]⟩ : ByteArray), .string (⟨#[114, 101, 97, 100]⟩ : ByteArray), .string (⟨#[119, 114, 105, 116, 101]⟩ : ByteArray), .string (⟨#[102, 111, 114, 107]⟩ : ByteArray), .string (⟨#[119, 97, 105, 116]⟩ : ByteArray), .string (⟨#[101, 109, 105, 116]⟩ : ByteArray), .string (⟨#[114, 101, 108, 101, 97, 115, 101]⟩ : ByteArray), .string (⟨#[116, 97, 107, 101]⟩ : ByteArray), .string (⟨#[114, 101, 116]⟩ : ByteArray), .string (⟨#[102, 97, 105, 108]⟩ : ByteArray)], rfl, rfl, ⟨[.string (⟨#[100, 117, 112]⟩ : ByteArray)], [.string (⟨#[97, 100, 100]⟩ : ByteArray), .string (⟨#[115, 117, 98]⟩ : ByteArray), .string (⟨#[109, 117, 108]⟩ : ByteArray), .string (⟨#[100, 105, 118]⟩ : ByteArray), .string (⟨#[108, 101, 115, 115]⟩ : ByteArray), .string (⟨#[101, 113]⟩ : ByteArray), .string (⟨#[106, 117, 109, 112]⟩ : ByteArray), .string (⟨#[106, 117, 109, 112, 122]⟩ : ByteArray), .string (⟨#[108, 111, 97, 100]⟩ : ByteArray), .string (⟨#[115, 116, 111, 114, 101]⟩ : ByteArray), .string (⟨#[108, 97, 98, 101, 108]⟩ : ByteArray), .string (⟨#[114, 97, 105, 115, 101]⟩ : ByteArray), .string (⟨#[105, 110, 112, 117, 116]⟩ : ByteArray), .string (⟨#[110, 101, 119]⟩ : ByteArray), .string (⟨#[114, 101, 97, 100]⟩ : ByteArray), .string (⟨#[119, 114, 105, 116, 101]⟩ : ByteArray), .string (⟨#[102, 111, 114, 107]⟩ : ByteArray), .string (⟨#[119, 97, 105, 116]⟩ : ByteArray), .string (⟨#[101, 109, 105, 116]⟩ : ByteArray), .string (⟨#[114, 101, 108, 101, 97, 115, 101]⟩ : ByteArray), .string (⟨#[116, 97, 107, 101]⟩ : ByteArray), .string (⟨#[114, 101, 116]⟩ : ByteArray), .string (⟨#[102, 97, 105, 108]⟩ : ByteArray)], rfl, rfl, ⟨[.string (⟨#[97, 100, 100]⟩ : ByteArray)], [.string (⟨#[115, 117, 98]⟩ : ByteArray), .string (⟨#[109, 117, 108]⟩ : ByteArray), .string (⟨#[100, 105, 118]⟩ : ByteArray), .string (⟨#[108, 101, 115, 115]⟩ : ByteArray), .string (⟨#[101, 113]⟩ : ByteArray), .string (⟨#[106, 117, 109, 112]⟩ : ByteArray), .string (⟨#[106, 117, 109, 112, 122]⟩ : ByteArray), .string (⟨#[108, 111, 97, 100]⟩ : ByteArray), .string (⟨#[115, 116, 111, 114, 101]⟩ : ByteArray), .string (⟨#[108, 97, 98, 101, 108]⟩ : ByteArray), .string (⟨#[114, 97, 105, 115, 101]⟩ : ByteArray), .string (⟨#[105, 110, 112, 117, 116]⟩ : ByteArray), .string (⟨#[110, 101, 119]⟩ : ByteArray), .string (⟨#[114, 101, 97, 100]⟩ : ByteArray), .string (⟨#[119, 114, 105, 116, 101]⟩ : ByteArray), .string (⟨#[102, 111, 114, 107]⟩ : ByteArray), .string (⟨#[119, 97, 105, 116]⟩ : ByteArray), .string (⟨#[101, 109, 105, 116]⟩ : ByteArray), .string (⟨#[114, 101, 108, 101, 97, 115, 101]⟩ : ByteArray), .string (⟨#[116, 97, 107, 101]⟩ : ByteArray), .string (⟨#[114, 101, 116]⟩ : ByteArray), .string (⟨#[102, 97, 105, 108]⟩ : ByteArray)], rfl, rfl, ⟨[.string (⟨#[115, 117, 98]⟩ : ByteArray)], [.string (⟨#[109, 117, 108]⟩ : ByteArray), .string (⟨#[100, 105, 118]⟩ : ByteArray), .string (⟨#[108, 101, 115, 115]⟩ : ByteArray), .string (⟨#[101, 113]⟩ : ByteArray), .string (⟨#[106, 117, 109, 112]⟩ : ByteArray), .string (⟨#[106, 117, 109, 112, 122]⟩ : ByteArray), .string (⟨#[108, 111, 97, 100]⟩ : ByteArray), .string (⟨#[115, 116, 111, 114, 101]⟩ : ByteArray), .string (⟨#[108, 97, 98, 101, 108]⟩ : ByteArray), .string (⟨#[114, 97, 105, 115, 101]⟩ : ByteArray), .string (⟨#[105, 110, 112, 117, 116]⟩ : ByteArray), .string (⟨#[110, 101, 119]⟩ : ByteArray), .string (⟨#[114, 101, 97, 100]⟩ : ByteArray), .string (⟨#[119, 114, 105, 116, 101]⟩ : ByteArray), .string (⟨#[102, 111, 114, 107]⟩ : ByteArray), .string (⟨#[119, 97, 105, 116]⟩ : ByteArray), .string (⟨#[101, 109, 105, 116]⟩ : ByteArray), .string (⟨#[114, 101, 108, 101, 97, 115, 101]⟩ : ByteArray), .string (⟨#[116, 97, 107, 101]⟩ : ByteArray), .string (⟨#[114, 101, 116]⟩ : ByteArray), .string (⟨#[102, 97, 105, 108]⟩ : ByteArray)], rfl, rfl, ⟨[.string (⟨#[109, 117, 108]⟩ : ByteArray)], [.string (⟨#[100, 105, 118]⟩ : ByteArray), .string (⟨#[108, 101, 115, 115]⟩ : ByteArray), .string (⟨#[101, 113]⟩ : ByteArray), .string (⟨#[106, 117, 109, 112]⟩ : ByteArray), .string (⟨#[106, 117, 109, 112, 122]⟩ : ByteArray), .string (⟨#[108, 111, 97, 100]⟩ : ByteArray), .string (⟨#[115, 116, 111, 114, 101]⟩ : ByteArray), .string (⟨#[108, 97, 98, 101, 108]⟩ : ByteArray), .string (⟨#[114, 97, 105, 115, 101]⟩ : ByteArray), .string (⟨#[105, 110, 112, 117, 116]⟩ : ByteArray), .string (⟨#[110, 101, 119]⟩ : ByteArray), .string (⟨#[114, 101, 97, 100]⟩ : ByteArray), .string (⟨#[119, 114, 105, 116, 101]⟩ : ByteArray), .string (⟨#[102, 111, 114, 107]⟩ : ByteArray), .string (⟨#[119, 97, 105, 116]⟩ : ByteArray), .string (⟨#[101, 109, 105, 116]⟩ : ByteArray), .string (⟨#[114, 101, 108, 101, 97, 115, 101]⟩ : ByteArray), .string (⟨#[116, 97, 107, 101]⟩ : ByteArray), .string (⟨#[114, 101, 116]⟩ : ByteArray), .string (⟨#[102, 97, 105, 108]⟩ : ByteArray)], rfl, rfl, ⟨[.string (⟨#[100, 105, 118]⟩ : ByteArray)], [.string (⟨#[108, 101, 115, 115]⟩ : ByteArray), .string (⟨#[101, 113]⟩ : ByteArray), .string (⟨#[106, 117, 109, 112]⟩ : ByteArray), .string (⟨#[106, 117, 109, 112, 122]⟩ : ByteArray), .string (⟨#[108, 111, 97, 100]⟩ : ByteArray), .string (⟨#[115, 116, 111, 114, 101]⟩ : ByteArray), .string (⟨#[108, 97, 98, 101, 108]⟩ : ByteArray), .string (⟨#[114, 97, 105, 115, 101]⟩ : ByteArray), .string (⟨#[105, 110, 112, 117, 116]⟩ : ByteArray), .string (⟨#[110, 101, 119]⟩ : ByteArray), .string (⟨#[114, 101, 97, 100]⟩ : ByteArray), .string (⟨#[119, 114, 105, 116, 101]⟩ : ByteArray), .string (⟨#[102, 111, 114, 107]⟩ : ByteArray), .string (⟨#[119, 97, 105, 116]⟩ : ByteArray), .string (⟨#[101, 109, 105, 116]⟩ : ByteArray), .string (⟨#[114, 101, 108, 101, 97, 115, 101]⟩ : ByteArray), .string (⟨#[116, 97, 107, 101]⟩ : ByteArray), .string (⟨#[114, 101, 116]⟩ : ByteArray), .string (⟨#[102, 97, 105, 108]⟩ : ByteArray)], rfl, rfl, ⟨[.string (⟨#[108, 101, 115, 115]⟩ : ByteArray)], [.string (⟨#[101, 113]⟩ : ByteArray), .string (⟨#[106, 117, 109, 112]⟩ : ByteArray), .string (⟨#[106, 117, 109, 112, 122]⟩ : ByteArray), .string (⟨#[108, 111, 97, 100]⟩ : ByteArray), .string (⟨#[115, 116, 111, 114, 101]⟩ : ByteArray), .string (⟨#[108, 97, 98, 101, 108]⟩ : ByteArray), .string (⟨#[114, 97, 105, 115, 101]⟩ : ByteArray), .string (⟨#[105, 110, 112, 117, 116]⟩ : ByteArray), .string (⟨#[110, 101, 119]⟩ : ByteArray), .string (⟨#[114, 101, 97, 100]⟩ : ByteArray), .string (⟨#[119, 114, 105, 116, 101]⟩ : ByteArray), .string (⟨#[102, 111, 114, 107]⟩ : ByteArray), .string (⟨#[119, 97, 105, 116]⟩ : ByteArray), .string (⟨#[101, 109, 105, 116]⟩ : ByteArray), .string (⟨#[114, 101, 108, 101, 97, 115, 101]⟩ : ByteArray), .string (⟨#[116, 97, 107, 101]⟩ : ByteArray), .string (⟨#[114, 101, 116]⟩ : ByteArray), .string (⟨#[102, 97, 105, 108]⟩ : ByteArray)], rfl, rfl, ⟨[.string (⟨#[101, 113]⟩ : ByteArray)], [.string (⟨#[106, 117, 109, 112]⟩ : ByteArray), .string (⟨#[106, 117, 109, 112, 122]⟩ : ByteArray), .string (⟨#[108, 111, 97, 100]⟩ : ByteArray), .string (⟨#[115, 116, 111, 114, 101]⟩ : ByteArray), .string (⟨#[108, 97, 98, 101, 108]⟩ : ByteArray), .string (⟨#[114, 97, 105, 115, 101]⟩ : ByteArray), .string (⟨#[105, 110, 112, 117, 116]⟩ : ByteArray), .string (⟨#[110, 101, 119]⟩ : ByteArray), .string (⟨#[114, 101, 97, 100]⟩ : ByteArray), .string (⟨#[119, 114, 105, 116, 101]⟩ : ByteArray), .string (⟨#[102, 111, 114, 107]⟩ : ByteArray), .string (⟨#[119, 97, 105, 116]⟩ : ByteArray), .string (⟨#[101, 109, 105, 116]⟩ : ByteArray), .string (⟨#[114, 101, 108, 101, 97, 115, 101]⟩ : ByteArray), .string (⟨#[116, 97, 107, 101]⟩ : ByteArray), .string (⟨#[114, 101, 116]⟩ : ByteArray), .string (⟨#[102, 97, 105, 108]⟩ : ByteArray)], rfl, rfl, ⟨[.string (⟨#[106, 117, 109, 112]⟩ : ByteArray)], [.string (⟨#[106, 117, 109, 112, 122]⟩ : ByteArray), .string (⟨#[108, 111, 97, 100]⟩ : ByteArray), .string (⟨#[115, 116, 111, 114, 101]⟩ : ByteArray), .string (⟨#[108, 97, 98, 101, 108]⟩ : ByteArray), .string (⟨#[114, 97, 105, 115, 101]⟩ : ByteArray), .string (⟨#[105, 110, 112, 117, 116]⟩ : ByteArray), .string (⟨#[110, 101, 119]⟩ : ByteArray), .string (⟨#[114, 101, 97, 100]⟩ : ByteArray), .string (⟨#[119, 114, 105, 116, 101]⟩ : ByteArray), .string (⟨#[102, 111, 114, 107]⟩ : ByteArray), .string (⟨#[119, 97, 105, 116]⟩ : ByteArray), .string (⟨#[101, 109, 105, 116]⟩ : ByteArray), .string (⟨#[114, 101, 108, 101, 97, 115, 101]⟩ : ByteArray), .string (⟨#[116, 97, 107, 101]⟩ : ByteArray), .string (⟨#[114, 101, 116]⟩ : ByteArray), .string (⟨#[102, 97, 105, 108]⟩ : ByteArray)], rfl, rfl, ⟨[.string (⟨#[106, 117, 109, 112, 122]⟩ : ByteArray)], [.string (⟨#[108, 111, 97, 100]⟩ : ByteArray), .string (⟨#[115, 116, 111, 114, 101]⟩ : ByteArray), .string (⟨#[108, 97, 98, 101, 108]⟩ : ByteArray), .string (⟨#[114, 97, 105, 115, 101]⟩ : ByteArray), .string (⟨#[105, 110, 112, 117, 116]⟩ : ByteArray), .string (⟨#[110, 101, 119]⟩ : ByteArray), .string (⟨#[114, 101, 97, 100]⟩ : ByteArray), .string (⟨#[119, 114, 105, 116, 101]⟩ : ByteArray), .string (⟨#[102, 111, 114, 107]⟩ : ByteArray), .string (⟨#[119, 97, 105, 116]⟩ : ByteArray), .string (⟨#[101, 109, 105, 116]⟩ : ByteArray), .string (⟨#[114, 101, 108, 101, 97, 115, 101]⟩ : ByteArray), .string (⟨#[116, 97, 107, 101]⟩ : ByteArray), .string (⟨#[114, 101, 116]⟩ : ByteArray), .string (⟨#[102, 97, 105, 108]⟩ : ByteArray)], rfl, rfl, ⟨[.string (⟨#[108, 111, 97, 100]⟩ : ByteArray)], [.string (⟨#[115, 116, 111, 114, 101]⟩ : ByteArray), .string (⟨#[108, 97, 98, 101, 108]⟩ : ByteArray), .string (⟨#[114, 97, 105, 115, 101]⟩ : ByteArray), .string (⟨#[105, 110, 112, 117, 116]⟩ : ByteArray), .string (⟨#[110, 101, 119]⟩ : ByteArray), .string (⟨#[114, 101, 97, 100]⟩ : ByteArray), .string (⟨#[119, 114, 105, 116, 101]⟩ : ByteArray), .string (⟨#[102, 111, 114, 107]⟩ : ByteArray), .string (⟨#[119, 97, 105, 116]⟩ : ByteArray), .string (⟨#[101, 109, 105, 116]⟩ : ByteArray), .string (⟨#[114, 101, 108, 101, 97, 115, 101]⟩ : ByteArray), .string (⟨#[116, 97, 107, 101]⟩ : ByteArray), .string (⟨#[114, 101, 116]⟩ : ByteArray), .string (⟨#[102, 97, 105, 108]⟩ : ByteArray)], rfl, rfl, ⟨[.string (⟨#[115, 116, 111, 114, 101]⟩ : ByteArray)], [.string (⟨#[108, 97, 98, 101, 108]⟩ : ByteArray), .string (⟨#[114, 97, 105, 115, 101]⟩ : ByteArray), .string (⟨#[105, 110, 112, 117, 116]⟩ : ByteArray), .string (⟨#[110, 101, 119]⟩ : ByteArray), .string (⟨#[114, 101, 97, 100]⟩ : ByteArray), .string (⟨#[119, 114, 105, 116, 101]⟩ : ByteArray), .string (⟨#[102, 111, 114, 107]⟩ : ByteArray), .string (⟨#[119, 97, 105, 116]⟩ : ByteArray), .string (⟨#[101, 109, 105, 116]⟩ : ByteArray), .string (⟨#[114, 101, 108, 101, 97, 115, 101]⟩ : ByteArray), .string (⟨#[116, 97, 107, 101]⟩ : ByteArray), .string (⟨#[114, 101, 116]⟩ : ByteArray), .string (⟨#[102, 97, 105, 108]⟩ : ByteArray)], rfl, rfl, ⟨[.string (⟨#[108, 97, 98, 101, 108]⟩ : ByteArray)], [.string (⟨#[114, 97, 105, 115, 101]⟩ : ByteArray), .string (⟨#[105, 110, 112, 117, 116]⟩ : ByteArray), .string (⟨#[110, 101, 119]⟩ : ByteArray), .string (⟨#[114, 101, 97, 100]⟩ : ByteArray), .string (⟨#[119, 114, 105, 116, 101]⟩ : ByteArray), .string (⟨#[102, 111, 114, 107]⟩ : ByteArray), .string (⟨#[119, 97, 105, 116]⟩ : ByteArray), .string (⟨#[101, 109, 105, 116]⟩ : ByteArray), .string (⟨#[114, 101, 108, 101, 97, 115, 101]⟩ : ByteArray), .string (⟨#[116, 97, 107, 101]⟩ : ByteArray), .string (⟨#[114, 101, 116]⟩ : ByteArray), .string (⟨#[102, 97, 105, 108]⟩ : ByteArray)], rfl, rfl, ⟨[.string (⟨#[114, 97, 105, 115, 101]⟩ : ByteArray)], [.string (⟨#[105, 110, 112, 117, 116]⟩ : ByteArray), .string (⟨#[110, 101, 119]⟩ : ByteArray), .string (⟨#[114, 101, 97, 100]⟩ : ByteArray), .string (⟨#[119, 114, 105, 116, 101]⟩ : ByteArray), .string (⟨#[102, 111, 114, 107]⟩ : ByteArray), .string (⟨#[119, 97, 105, 116]⟩ : ByteArray), .string (⟨#[101, 109, 105, 116]⟩ : ByteArray), .string (⟨#[114, 101, 108, 101, 97, 115, 101]⟩ : ByteArray), .string (⟨#[116, 97, 107, 101]⟩ : ByteArray), .string (⟨#[114, 101, 116]⟩ : ByteArray), .string (⟨#[102, 97, 105, 108]⟩ : ByteArray)], rfl, rfl, ⟨[.string (⟨#[105, 110, 112, 117, 116]⟩ : ByteArray)], [.string (⟨#[110, 101, 119]⟩ : ByteArray), .string (⟨#[114, 101, 97, 100]⟩ : ByteArray), .string (⟨#[119, 114, 105, 116, 101]⟩ : ByteArray), .string (⟨#[102, 111, 114, 107]⟩ : ByteArray), .string (⟨#[119, 97, 105, 116]⟩ : ByteArray), .string (⟨#[101, 109, 105, 116]⟩ : ByteArray), .string (⟨#[114, 101, 108, 101, 97, 115, 101]⟩ : ByteArray), .string (⟨#[116, 97, 107, 101]⟩ : ByteArray), .string (⟨#[114, 101, 116]⟩ : ByteArray), .string (⟨#[102, 97, 105, 108]⟩ : ByteArray)], rfl, rfl, ⟨[.string (⟨#[110, 101, 119]⟩ : ByteArray)], [.string (⟨#[114, 101, 97, 100]⟩ : ByteArray), .string (⟨#[119, 114, 105, 116, 101]⟩ : ByteArray), .string (⟨#[102, 111, 114, 107]⟩ : ByteArray), .string (⟨#[119, 97, 105, 116]⟩ : ByteArray), .string (⟨#[101, 109, 105, 116]⟩ : ByteArray), .string (⟨#[114, 101, 108, 101, 97, 115, 101]⟩ : ByteArray), .string (⟨#[116, 97, 107, 101]⟩ : ByteArray), .string (⟨#[114, 101, 116]⟩ : ByteArray), .string (⟨#[102, 97, 105, 108]⟩ : ByteArray)], rfl, rfl, ⟨[.string (⟨#[114, 101, 97, 100]⟩ : ByteArray)], [.string (⟨#[119, 114, 105, 116, 101]⟩ : ByteArray), .string (⟨#[102, 111, 114, 107]⟩ : ByteArray), .string (⟨#[119, 97, 105, 116]⟩ : ByteArray), .string (⟨#[101, 109, 105, 116]⟩ : ByteArray), .string (⟨#[114, 101, 108, 101, 97, 115, 101]⟩ : ByteArray), .string (⟨#[116, 97, 107, 101]⟩ : ByteArray), .string (⟨#[114, 101, 116]⟩ : ByteArray), .string (⟨#[102, 97, 105, 108]⟩ : ByteArray)], rfl, rfl, ⟨[.string (⟨#[119, 114, 105, 116, 101]⟩ : ByteArray)], [.string (⟨#[102, 111, 114, 107]⟩ : ByteArray), .string (⟨#[119, 97, 105, 116]⟩ : ByteArray), .string (⟨#[101, 109, 105, 116]⟩ : ByteArray), .string (⟨#[114, 101, 108, 101, 97, 115, 101]⟩ : ByteArray), .string (⟨#[116, 97, 107, 101]⟩ : ByteArray), .string (⟨#[114, 101, 116]⟩ : ByteArray), .string (⟨#[102, 97, 105, 108]⟩ : ByteArray)], rfl, rfl, ⟨[.string (⟨#[102, 111, 114, 107]⟩ : ByteArray)], [.string (⟨#[119, 97, 105, 116]⟩ : ByteArray), .string (⟨#[101, 109, 105, 116]⟩ : ByteArray), .string (⟨#[114, 101, 108, 101, 97, 115, 101]⟩ : ByteArray), .string (⟨#[116, 97, 107, 101]⟩ : ByteArray), .string (⟨#[114, 101, 116]⟩ : ByteArray), .string (⟨#[102, 97, 105, 108]⟩ : ByteArray)], rfl, rfl, ⟨[.string (⟨#[119, 97, 105, 116]⟩ : ByteArray)], [.string (⟨#[101, 109, 105, 116]⟩ : ByteArray), .string (⟨#[114, 101, 108, 101, 97, 115, 101]⟩ : ByteArray), .string (⟨#[116, 97, 107, 101]⟩ : ByteArray), .string (⟨#[114, 101, 116]⟩ : ByteArray), .string (⟨#[102, 97, 105, 108]⟩ : ByteArray)], rfl, rfl, ⟨[.string (⟨#[101, 109, 105, 116]⟩ : ByteArray)], [.string (⟨#[114, 101, 108, 101, 97, 115, 101]⟩ : ByteArray), .string (⟨#[116, 97, 107, 101]⟩ : ByteArray), .string (⟨#[114, 101, 116]⟩ : ByteArray), .string (⟨#[102, 97, 105, 108]⟩ : ByteArray)], rfl, rfl, ⟨[.string (⟨#[114, 101, 108, 101, 97, 115, 101]⟩ : ByteArray)], [.string (⟨#[116, 97, 107, 101]⟩ : ByteArray), .string (⟨#[114, 101, 116]⟩ : ByteArray), .string (⟨#[102, 97, 105, 108]⟩ : ByteArray)], rfl, rfl, ⟨[.string (⟨#[116, 97, 107, 101]⟩ : ByteArray)], [.string (⟨#[114, 101, 116]⟩ : ByteArray), .string (⟨#[102, 97, 105, 108]⟩ : ByteArray)], rfl, rfl, ⟨[.string (⟨#[114, 101, 116]⟩ : ByteArray)], [.string (⟨#[102, 97, 105, 108]⟩ : ByteArray)], rfl, rfl, ⟨[.string (⟨#[102, 97, 105, 108]⟩ : ByteArray)], [], rfl, rfl, rfl⟩⟩⟩⟩⟩⟩⟩⟩⟩⟩⟩⟩⟩⟩⟩⟩⟩⟩⟩⟩⟩⟩⟩⟩⟩⟩)) ?_)
 intro a1 w hS
 refine EL.quick 1 [0] [(0, sv (some ⟨a1, 0, none⟩) 26 a0)] (by kernel_rfl) ?_
 refine EL.done (by kernel_rfl) ?_
 refine EQ.code ?_
 refine EW.ret (by kernel_rfl) ?_
 obtain rfl := Option.some.inj H
 exact EQ.leave (sv (some ⟨a1, 0, none⟩) 26 a0) (by kernel_rfl) ⟨_, rfl, (some ⟨a1, 0, none⟩), 26, rfl, (hS.re [0] [] rfl (sub_self))⟩

/-! ### confidant/confidantref5.Name: function 74 -/
def confidantref5_Name.f (K : Nat) (a0 : Int) : Option ByteArray := b1 (confidantref5_Known.f K a0) fun (a2 : Bool) => (if a2 = true then (b1 (confidantref5_names.f K) fun (a1 : List ByteArray) => (if 0 ≤ (IntKind.i64.wrap (a0 - 1)) then (if (IntKind.i64.wrap (a0 - 1)) < (a1.length : Int) then (some (a1.getD (IntKind.i64.wrap (a0 - 1)).toNat ⟨#[]⟩)) else none) else none)) else (some (⟨#[]⟩ : ByteArray)))
set_option maxRecDepth 100000 in
theorem confidantref5_Name.calls {K : Nat} {a0 : Int} {a8 : ByteArray} {B w : World} {os : List Ass} {rs : List Ro} (H : confidantref5_Name.f K a0 = some a8) (hS : St B w (os) (rs)) :
  Calls Tryd.prog 74 [ia a0].toArray w (fun en w' => ∃ v, en = .returned v ∧ v = .string a8 ∧ St B w' (os) (rs)) := by
 unfold confidantref5_Name.f at H
 refine calls_of_EW (args := [ia a0]) (c := Cd74) 11 Tryd.func74 (by kernel_rfl) (by kernel_rfl) (by kernel_rfl) ?_
 refine EW.sq (by kernel_rfl) ?_
 refine EW.rg (by kernel_rfl) ?_
 refine EL.quick 1 [0] [(0, ia a0)] (by kernel_rfl) ?_
 refine EL.done (by kernel_rfl) ?_
 refine EQ.code ?_
 refine EW.sq (by kernel_rfl) ?_
 refine EW.sq (by kernel_rfl) ?_
 refine EW.rg (by kernel_rfl) ?_
 refine EL.quick 1 [0, 3] [(0, ia a0), (3, ia a0)] (by kernel_rfl) ?_
 obtain ⟨a2, b0, H⟩ := b1_out H
 have hq := confidantref5_Known.calls b0 hS
 refine EL.of (EO.callD 73 [ia a0] _ 4 (by kernel_rfl) (by kernel_rfl) (by kernel_rfl) hq ?_)
 rintro v w ⟨rfl, hS⟩
 refine EL.quick 1 [0, 5] [(0, ia a0), (5, .bool (!(a2)))] (by kernel_rfl) ?_
 refine EL.done (by kernel_rfl) ?_
 refine EQ.code ?_
 refine EW.cdQ (b := !(a2)) (a2 = true) (false) (by kernel_rfl) (by kernel_rfl) ⟨fun h => (by rw [h] <;> rfl), fun h => (by rw [Bool.eq_false_iff.2 h] <;> rfl)⟩ (fun a4 => ?_) (fun a4 => ?_)
 ·rw [if_pos a4] at H
  refine EW.skip (by kernel_rfl) ?_
  refine EQ.code ?_
  refine EW.sq (by kernel_rfl) ?_
  refine EW.rg (by kernel_rfl) ?_
  obtain ⟨a1, b2, H⟩ := b1_out H
  have hq := confidantref5_names.calls b2 hS
  refine EL.of (EO.callD 90 [] _ 6 (by kernel_rfl) (by kernel_rfl) (by kernel_rfl) hq ?_)
  rintro v w ⟨a9, a3, rfl, hS⟩
  refine EL.quick 2 [6, 8] [(6, sv a9 a3 a1), (8, ia (IntKind.i64.wrap (a0 - 1)))] (by kernel_rfl) ?_
  obtain ⟨a5, H⟩ := ite_in H
  obtain ⟨a6, H⟩ := ite_in H
  obtain ⟨a7, rfl⟩ := St.rd_some hS (Rd.own 0 9 rfl) a5 a6
  refine EL.of (EO.Y (YO.idx 68 1 a7 a1.length a3 .i64 (IntKind.i64.wrap (a0 - 1)) 9 (by kernel_rfl) (by kernel_rfl) (by kernel_rfl) (by kernel_rfl) a5 a6) ?_)
  refine EL.of (EO.Y (YO.loadEl hS Kd.str a7 a3 a1 (Rd.own 0 9 rfl) ⟨#[]⟩ encS encS_of (IntKind.i64.wrap (a0 - 1)) a5 a6 9 1 0 1 rfl (.string (a1.getD (IntKind.i64.wrap (a0 - 1)).toNat ⟨#[]⟩)) 10 (by kernel_rfl) (by kernel_rfl) (by kernel_rfl) (by kernel_rfl)) ?_)
  refine EL.quick 1 [2] [(2, .string (a1.getD (IntKind.i64.wrap (a0 - 1)).toNat ⟨#[]⟩))] (by kernel_rfl) ?_
  refine EL.done (by kernel_rfl) ?_
  refine EQ.code ?_
  refine EW.ret (by kernel_rfl) ?_
  obtain rfl := Option.some.inj H
  exact EQ.leave (.string (a1.getD (IntKind.i64.wrap (a0 - 1)).toNat ⟨#[]⟩)) (by kernel_rfl) ⟨_, rfl, rfl, (hS.re [] [0] rfl (sub_self))⟩
 rw [if_neg a4] at H
 refine EW.sq (by kernel_rfl) ?_
 refine EW.rg (by kernel_rfl) ?_
 refine EL.quick 1 [2] [(2, .string (⟨#[]⟩ : ByteArray))] (by kernel_rfl) ?_
 refine EL.done (by kernel_rfl) ?_
 refine EQ.code ?_
 refine EW.ret (by kernel_rfl) ?_
 refine EQ.ret ?_
 obtain rfl := Option.some.inj H
 exact EQ.leave (.string (⟨#[]⟩ : ByteArray)) (by kernel_rfl) ⟨_, rfl, rfl, (hS.re [] [] rfl (sub_self))⟩

/-! ### confidant/confidantref5.dec: function 80 -/
def confidantref5_dec.f : Nat → Int → Option ByteArray
 | 0, _ => none
 | K + 1, a0 => if a0 < 10 then (if 0 ≤ a0 then (if a0 ≤ (IntKind.u64.wrap (a0 + 1)) then (if (IntKind.u64.wrap (a0 + 1)) ≤ ((⟨#[48, 49, 50, 51, 52, 53, 54, 55, 56, 57]⟩ : ByteArray).size : Int) then (some ((⟨#[48, 49, 50, 51, 52, 53, 54, 55, 56, 57]⟩ : ByteArray).extract a0.toNat ((IntKind.u64.wrap (a0 + 1)).toNat))) else none) else none) else none) else (b1 (confidantref5_dec.f K (IntKind.u64.wrap (Int.tdiv a0 10))) fun (a1 : ByteArray) => (b1 (confidantref5_dec.f K (Int.tmod a0 10)) fun (a2 : ByteArray) => (if a1.size + a2.size ≤ 9223372036854775807 then (some (a1 ++ a2)) else none)))
set_option maxRecDepth 100000 in
theorem confidantref5_dec.calls {K : Nat} {a0 : Int} {a4 : ByteArray} {B w : World} {os : List Ass} {rs : List Ro} (H : confidantref5_dec.f K a0 = some a4) (hS : St B w (os) (rs)) :
    Calls Tryd.prog 80 [ic a0].toArray w (fun en w' => ∃ v, en = .returned v ∧ v = .string a4 ∧ St B w' (os) (rs)) := by
  induction K generalizing a0 a4 B w os rs with
  | zero => exact absurd H (by unfold confidantref5_dec.f; simp)
  | succ K ih =>
    unfold confidantref5_dec.f at H
    refine calls_of_EW (args := [ic a0]) (c := Cd80) 16 Tryd.func80 (by kernel_rfl) (by kernel_rfl) (by kernel_rfl) ?_
    refine EW.sq (by kernel_rfl) ?_
    refine EW.rg (by kernel_rfl) ?_
    refine EL.quick 1 [0] [(0, ic a0)] (by kernel_rfl) ?_
    refine EL.done (by kernel_rfl) ?_
    refine EQ.code ?_
    refine EW.sq (by kernel_rfl) ?_
    refine EW.sq (by kernel_rfl) ?_
    refine EW.rg (by kernel_rfl) ?_
    refine EL.quick 2 [0, 4] [(0, ic a0), (4, .bool (decide (a0 < 10)))] (by kernel_rfl) ?_
    refine EL.done (by kernel_rfl) ?_
    refine EQ.code ?_
    refine EW.cdP (a0 < 10) (by kernel_rfl) (by kernel_rfl) (fun a3 => ?_) (fun a3 => ?_)
    · rw [if_pos a3] at H
      refine EW.sq (by kernel_rfl) ?_
      refine EW.rg (by kernel_rfl) ?_
      refine EL.quick 3 [5, 7] [(5, ic a0), (7, ic (IntKind.u64.wrap (a0 + 1)))] (by kernel_rfl) ?_
      obtain ⟨a8, H⟩ := ite_in H
      obtain ⟨a9, H⟩ := ite_in H
      obtain ⟨b0, H⟩ := ite_in H
      refine EL.of (EO.Y (YO.strSlice (⟨#[48, 49, 50, 51, 52, 53, 54, 55, 56, 57]⟩ : ByteArray) (some (ic a0)) (some (ic (IntKind.u64.wrap (a0 + 1)))) a0.toNat ((IntKind.u64.wrap (a0 + 1)).toNat) 9 8 (by kernel_rfl) (by kernel_rfl) (by kernel_rfl) (by kernel_rfl) ((Int.toNat_of_nonneg (by omega)).symm) ((Int.toNat_of_nonneg (by omega)).symm) (by omega) (by omega)) ?_)
      refine EL.quick 1 [2] [(2, .string ((⟨#[48, 49, 50, 51, 52, 53, 54, 55, 56, 57]⟩ : ByteArray).extract a0.toNat ((IntKind.u64.wrap (a0 + 1)).toNat)))] (by kernel_rfl) ?_
      refine EL.done (by kernel_rfl) ?_
      refine EQ.code ?_
      refine EW.ret (by kernel_rfl) ?_
      refine EQ.ret ?_
      obtain rfl := Option.some.inj H
      exact EQ.leave (.string ((⟨#[48, 49, 50, 51, 52, 53, 54, 55, 56, 57]⟩ : ByteArray).extract a0.toNat ((IntKind.u64.wrap (a0 + 1)).toNat))) (by kernel_rfl) ⟨_, rfl, rfl, (hS.re [] [] rfl (sub_self))⟩
    rw [if_neg a3] at H
    refine EW.skip (by kernel_rfl) ?_
    refine EQ.code ?_
    refine EW.sq (by kernel_rfl) ?_
    refine EW.rg (by kernel_rfl) ?_
    refine EL.quick 2 [0, 10] [(0, ic a0), (10, ic (IntKind.u64.wrap (Int.tdiv a0 10)))] (by kernel_rfl) ?_
    obtain ⟨a1, a6, H⟩ := b1_out H
    have hq := ih a6 hS
    refine EL.of (EO.callD 80 [ic (IntKind.u64.wrap (Int.tdiv a0 10))] _ 11 (by kernel_rfl) (by kernel_rfl) (by kernel_rfl) hq ?_)
    rintro v w ⟨rfl, hS⟩
    refine EL.quick 2 [11, 13] [(11, .string a1), (13, ic (Int.tmod a0 10))] (by kernel_rfl) ?_
    obtain ⟨a2, a7, H⟩ := b1_out H
    have hq := ih a7 hS
    refine EL.of (EO.callD 80 [ic (Int.tmod a0 10)] _ 14 (by kernel_rfl) (by kernel_rfl) (by kernel_rfl) hq ?_)
    rintro v w ⟨rfl, hS⟩
    obtain ⟨a5, H⟩ := ite_in H
    refine EL.of (EO.Y (YO.strCat a1 a2 15 (by kernel_rfl) (by kernel_rfl) (by kernel_rfl) a5) ?_)
    refine EL.quick 1 [2] [(2, .string (a1 ++ a2))] (by kernel_rfl) ?_
    refine EL.done (by kernel_rfl) ?_
    refine EQ.code ?_
    refine EW.ret (by kernel_rfl) ?_
    obtain rfl := Option.some.inj H
    exact EQ.leave (.string (a1 ++ a2)) (by kernel_rfl) ⟨_, rfl, rfl, (hS.re [] [] rfl (sub_self))⟩

/-! ### confidant/confidantref5.Decimal: function 55 -/
def confidantref5_Decimal.f (K : Nat) (a0 : Int) : Option ByteArray := if a0 < 0 then (b1 (confidantref5_dec.f K (IntKind.u64.wrap ((IntKind.u64.wrap (IntKind.i64.wrap (0 - (IntKind.i64.wrap (a0 + 1))))) + 1))) fun (a1 : ByteArray) => (if (⟨#[45]⟩ : ByteArray).size + a1.size ≤ 9223372036854775807 then (some ((⟨#[45]⟩ : ByteArray) ++ a1)) else none)) else (b1 (confidantref5_dec.f K (IntKind.u64.wrap a0)) fun (a2 : ByteArray) => (some a2))
set_option maxRecDepth 100000 in
theorem confidantref5_Decimal.calls {K : Nat} {a0 : Int} {a4 : ByteArray} {B w : World} {os : List Ass} {rs : List Ro} (H : confidantref5_Decimal.f K a0 = some a4) (hS : St B w (os) (rs)) :
  Calls Tryd.prog 55 [ia a0].toArray w (fun en w' => ∃ v, en = .returned v ∧ v = .string a4 ∧ St B w' (os) (rs)) := by
 unfold confidantref5_Decimal.f at H
 refine calls_of_EW (args := [ia a0]) (c := Cd55) 15 Tryd.func55 (by kernel_rfl) (by kernel_rfl) (by kernel_rfl) ?_
 refine EW.sq (by kernel_rfl) ?_
 refine EW.rg (by kernel_rfl) ?_
 refine EL.quick 1 [0] [(0, ia a0)] (by kernel_rfl) ?_
 refine EL.done (by kernel_rfl) ?_
 refine EQ.code ?_
 refine EW.sq (by kernel_rfl) ?_
 refine EW.sq (by kernel_rfl) ?_
 refine EW.rg (by kernel_rfl) ?_
 refine EL.quick 2 [0, 4] [(0, ia a0), (4, .bool (decide (a0 < 0)))] (by kernel_rfl) ?_
 refine EL.done (by kernel_rfl) ?_
 refine EQ.code ?_
 refine EW.cdP (a0 < 0) (by kernel_rfl) (by kernel_rfl) (fun a3 => ?_) (fun a3 => ?_)
 ·rw [if_pos a3] at H
  refine EW.sq (by kernel_rfl) ?_
  refine EW.rg (by kernel_rfl) ?_
  refine EL.quick 5 [9] [(9, ic (IntKind.u64.wrap ((IntKind.u64.wrap (IntKind.i64.wrap (0 - (IntKind.i64.wrap (a0 + 1))))) + 1)))] (by kernel_rfl) ?_
  obtain ⟨a1, a6, H⟩ := b1_out H
  have hq := confidantref5_dec.calls a6 hS
  refine EL.of (EO.callD 80 [ic (IntKind.u64.wrap ((IntKind.u64.wrap (IntKind.i64.wrap (0 - (IntKind.i64.wrap (a0 + 1))))) + 1))] _ 10 (by kernel_rfl) (by kernel_rfl) (by kernel_rfl) hq ?_)
  rintro v w ⟨rfl, hS⟩
  obtain ⟨a5, H⟩ := ite_in H
  refine EL.of (EO.Y (YO.strCat (⟨#[45]⟩ : ByteArray) a1 11 (by kernel_rfl) (by kernel_rfl) (by kernel_rfl) a5) ?_)
  refine EL.quick 1 [2] [(2, .string ((⟨#[45]⟩ : ByteArray) ++ a1))] (by kernel_rfl) ?_
  refine EL.done (by kernel_rfl) ?_
  refine EQ.code ?_
  refine EW.ret (by kernel_rfl) ?_
  refine EQ.ret ?_
  obtain rfl := Option.some.inj H
  exact EQ.leave (.string ((⟨#[45]⟩ : ByteArray) ++ a1)) (by kernel_rfl) ⟨_, rfl, rfl, (hS.re [] [] rfl (sub_self))⟩
 rw [if_neg a3] at H
 refine EW.skip (by kernel_rfl) ?_
 refine EQ.code ?_
 refine EW.sq (by kernel_rfl) ?_
 refine EW.rg (by kernel_rfl) ?_
 refine EL.quick 2 [13] [(13, ic (IntKind.u64.wrap a0))] (by kernel_rfl) ?_
 obtain ⟨a2, a7, H⟩ := b1_out H
 have hq := confidantref5_dec.calls a7 hS
 refine EL.of (EO.callD 80 [ic (IntKind.u64.wrap a0)] _ 14 (by kernel_rfl) (by kernel_rfl) (by kernel_rfl) hq ?_)
 rintro v w ⟨rfl, hS⟩
 refine EL.quick 1 [2] [(2, .string a2)] (by kernel_rfl) ?_
 refine EL.done (by kernel_rfl) ?_
 refine EQ.code ?_
 refine EW.ret (by kernel_rfl) ?_
 obtain rfl := Option.some.inj H
 exact EQ.leave (.string a2) (by kernel_rfl) ⟨_, rfl, rfl, (hS.re [] [] rfl (sub_self))⟩

/-! ### confidant/confidantref5.Text: function 39 -/
def confidantref5_Text.f (K : Nat) (a0 : Int) (a1 : Int) : Option ByteArray := b1 (confidantref5_Right.f K a0 a1) fun (a5 : Bool) => (if a5 = true then (b1 (confidantref5_Arg.f K a0) fun (a6 : Int) => (if a6 = 0 then (b1 (confidantref5_Name.f K a0) fun (a7 : ByteArray) => (some a7)) else (b1 (confidantref5_Name.f K a0) fun (a3 : ByteArray) => (if a3.size + (⟨#[32]⟩ : ByteArray).size ≤ 9223372036854775807 then (b1 (confidantref5_Decimal.f K (IntKind.i64.wrap a1)) fun (a4 : ByteArray) => (if (a3 ++ (⟨#[32]⟩ : ByteArray)).size + a4.size ≤ 9223372036854775807 then (some ((a3 ++ (⟨#[32]⟩ : ByteArray)) ++ a4)) else none)) else none)))) else (some (⟨#[]⟩ : ByteArray)))
set_option maxRecDepth 100000 in
theorem confidantref5_Text.calls {K : Nat} {a0 : Int} {a1 : Int} {b0 : ByteArray} {B w : World} {os : List Ass} {rs : List Ro} (H : confidantref5_Text.f K a0 a1 = some b0) (hS : St B w (os) (rs)) :
  Calls Tryd.prog 39 [ag [ia a0, ib a1]].toArray w (fun en w' => ∃ v, en = .returned v ∧ v = .string b0 ∧ St B w' (os) (rs)) := by
 unfold confidantref5_Text.f at H
 refine calls_of_EW (args := [ag [ia a0, ib a1]]) (c := Cd39) 24 Tryd.func39 (by kernel_rfl) (by kernel_rfl) (by kernel_rfl) ?_
 refine EW.sq (by kernel_rfl) ?_
 refine EW.rg (by kernel_rfl) ?_
 refine EL.of (EO.box hS 54 (ag [ia a0, ib a1]) [ia a0, ib a1] 1 (by kernel_rfl) (by kernel_rfl) (by kernel_rfl) (by first | rfl | kernel_rfl) ?_)
 intro a2 w hS
 refine EL.quick 1 [1] [(1, pt a2 0)] (by kernel_rfl) ?_
 refine EL.done (by kernel_rfl) ?_
 refine EQ.code ?_
 refine EW.sq (by kernel_rfl) ?_
 refine EW.bl 0 (by kernel_rfl) ?_
 refine EW.sq (by kernel_rfl) ?_
 refine EW.rg (by kernel_rfl) ?_
 refine EL.of (EO.Y (YO.loadBox hS 0 rfl 54 0 2 (ag [ia a0, ib a1]) 4 (by kernel_rfl) (by kernel_rfl) (by kernel_rfl) (by kernel_rfl)) ?_)
 obtain ⟨a5, b4, H⟩ := b1_out H
 have hq := confidantref5_Right.calls b4 hS
 refine EL.of (EO.callD 38 [ag [ia a0, ib a1]] _ 5 (by kernel_rfl) (by kernel_rfl) (by kernel_rfl) hq ?_)
 rintro v w ⟨rfl, hS⟩
 refine EL.quick 2 [1, 3] [(1, pt a2 0), (3, .bool (!(a5)))] (by kernel_rfl) ?_
 refine EL.done (by kernel_rfl) ?_
 refine EQ.code ?_
 refine EW.cdQ (b := !(a5)) (a5 = true) (false) (by kernel_rfl) (by kernel_rfl) ⟨fun h => (by rw [h] <;> rfl), fun h => (by rw [Bool.eq_false_iff.2 h] <;> rfl)⟩ (fun a8 => ?_) (fun a8 => ?_)
 ·rw [if_pos a8] at H
  refine EW.sq (by kernel_rfl) ?_
  refine EW.rg (by kernel_rfl) ?_
  refine EL.quick 1 [1, 8] [(1, pt a2 0), (8, pt a2 0)] (by kernel_rfl) ?_
  refine EL.of (EO.Y (YO.loadBox hS 0 rfl 3 0 1 (ia a0) 9 (by kernel_rfl) (by kernel_rfl) (by kernel_rfl) (by kernel_rfl)) ?_)
  obtain ⟨a6, b5, H⟩ := b1_out H
  have hq := confidantref5_Arg.calls b5 hS
  refine EL.of (EO.callD 71 [ia a0] _ 10 (by kernel_rfl) (by kernel_rfl) (by kernel_rfl) hq ?_)
  rintro v w ⟨rfl, hS⟩
  refine EL.quick 2 [1, 7] [(1, pt a2 0), (7, .bool (decide (a6 = 0)))] (by kernel_rfl) ?_
  refine EL.done (by kernel_rfl) ?_
  refine EQ.code ?_
  refine EW.cdP (a6 = 0) (by kernel_rfl) (by kernel_rfl) (fun a9 => ?_) (fun a9 => ?_)
  ·rw [if_pos a9] at H
   refine EW.sq (by kernel_rfl) ?_
   refine EW.rg (by kernel_rfl) ?_
   refine EL.quick 1 [12] [(12, pt a2 0)] (by kernel_rfl) ?_
   refine EL.of (EO.Y (YO.loadBox hS 0 rfl 3 0 1 (ia a0) 13 (by kernel_rfl) (by kernel_rfl) (by kernel_rfl) (by kernel_rfl)) ?_)
   obtain ⟨a7, b6, H⟩ := b1_out H
   have hq := confidantref5_Name.calls b6 hS
   refine EL.of (EO.callD 74 [ia a0] _ 14 (by kernel_rfl) (by kernel_rfl) (by kernel_rfl) hq ?_)
   rintro v w ⟨rfl, hS⟩
   refine EL.quick 1 [2] [(2, .string a7)] (by kernel_rfl) ?_
   refine EL.done (by kernel_rfl) ?_
   refine EQ.code ?_
   refine EW.ret (by kernel_rfl) ?_
   refine EQ.ret ?_
   refine EQ.ret ?_
   obtain rfl := Option.some.inj H
   exact EQ.leave (.string a7) (by kernel_rfl) ⟨_, rfl, rfl, (hS.re [] [0] rfl (sub_self))⟩
  rw [if_neg a9] at H
  refine EW.skip (by kernel_rfl) ?_
  refine EQ.pop ?_
  refine EQ.code ?_
  refine EW.sq (by kernel_rfl) ?_
  obtain ⟨a3, b7, H⟩ := b1_out H
  obtain ⟨b2, H⟩ := ite_in H
  obtain ⟨a4, b8, H⟩ := b1_out H
  obtain ⟨b3, H⟩ := ite_in H
  have hS := hS.drew
  refine EW.dr (B := B) [Ass.box 54 a2 [ia a0, ib a1]] [] (by kernel_rfl) (by kernel_rfl) ?_
  have hN : Region.noSelect Cd39.r.r.l.ops = true := (by kernel_rfl)
  have hF : freeAll Cd39.r.r.l.ops = true := (by kernel_rfl)
  have hC : Core B [Ass.box 54 a2 [ia a0, ib a1]] [] _ := ⟨_, _, hS⟩
  refine ED.quick hN hF hC [0, 4] [15, 19] 8 [(15, pt a2 0), (19, pt a2 1)] (bm 10 17) (by kernel_rfl) (by kernel_rfl) ?_
  refine ED.Y hN hF hC 1 7 (bm 10 19) (by kernel_rfl) (by kernel_rfl) rfl (fun _ _ _ hS => YO.loadBox hS 0 rfl 3 0 1 (ia a0) 16 (by kernel_rfl) (by kernel_rfl) (by kernel_rfl) (by kernel_rfl)) ?_
  refine ED.Y hN hF hC 5 6 (bm 10 51) (by kernel_rfl) (by kernel_rfl) rfl (fun _ _ _ hS => YO.loadBox hS 0 rfl 21 1 1 (ib a1) 20 (by kernel_rfl) (by kernel_rfl) (by kernel_rfl) (by kernel_rfl)) ?_
  refine ED.quick hN hF hC [6] [16, 21] 5 [(16, ia a0), (21, ia (IntKind.i64.wrap a1))] (bm 10 115) (by kernel_rfl) (by kernel_rfl) ?_
  have hq := confidantref5_Name.calls b7 hS
  refine ED.one 2 4 (bm 10 119) (by kernel_rfl) (by kernel_rfl) (by kernel_rfl) (EO.callD 74 [ia a0] _ 17 (by kernel_rfl) (by kernel_rfl) (by kernel_rfl) hq ?_)
  rintro v w ⟨rfl, hS⟩
  have hC := hC.again ⟨_, _, hS⟩
  refine ⟨hC, ?_⟩
  refine ED.Y hN hF hC 3 3 (bm 10 127) (by kernel_rfl) (by kernel_rfl) rfl (fun _ _ _ hS => YO.strCat a3 (⟨#[32]⟩ : ByteArray) 18 (by kernel_rfl) (by kernel_rfl) (by kernel_rfl) b2) ?_
  have hq := confidantref5_Decimal.calls b8 hS
  refine ED.one 7 2 (bm 10 255) (by kernel_rfl) (by kernel_rfl) (by kernel_rfl) (EO.callD 55 [ia (IntKind.i64.wrap a1)] _ 22 (by kernel_rfl) (by kernel_rfl) (by kernel_rfl) hq ?_)
  rintro v w ⟨rfl, hS⟩
  have hC := hC.again ⟨_, _, hS⟩
  refine ⟨hC, ?_⟩
  refine ED.Y hN hF hC 8 1 (bm 10 511) (by kernel_rfl) (by kernel_rfl) rfl (fun _ _ _ hS => YO.strCat (a3 ++ (⟨#[32]⟩ : ByteArray)) a4 23 (by kernel_rfl) (by kernel_rfl) (by kernel_rfl) b3) ?_
  refine ED.quick hN hF hC [9] [2] 0 [(2, .string ((a3 ++ (⟨#[32]⟩ : ByteArray)) ++ a4))] (bm 10 1023) (by kernel_rfl) (by kernel_rfl) ?_
  refine ED.done (by kernel_rfl) ?_
  refine EQ.code ?_
  refine EW.ret (by kernel_rfl) ?_
  obtain rfl := Option.some.inj H
  exact EQ.leave (.string ((a3 ++ (⟨#[32]⟩ : ByteArray)) ++ a4)) (by kernel_rfl) ⟨_, rfl, rfl, (hS.re [] [0] rfl (sub_self))⟩
 rw [if_neg a8] at H
 refine EW.sq (by kernel_rfl) ?_
 refine EW.rg (by kernel_rfl) ?_
 refine EL.quick 1 [2] [(2, .string (⟨#[]⟩ : ByteArray))] (by kernel_rfl) ?_
 refine EL.done (by kernel_rfl) ?_
 refine EQ.code ?_
 refine EW.ret (by kernel_rfl) ?_
 refine EQ.ret ?_
 refine EQ.ret ?_
 obtain rfl := Option.some.inj H
 exact EQ.leave (.string (⟨#[]⟩ : ByteArray)) (by kernel_rfl) ⟨_, rfl, rfl, (hS.re [] [0] rfl (sub_self))⟩

/-! ### (*confidant/pack.Reader).Left: function 40 -/
def pack_Reader_Left.f (K : Nat) (a0 : List Int) (a4 : Int) : Option (List Int × Int × Int) := some (a0, a4, (a0.length : Int))
set_option maxRecDepth 100000 in
theorem pack_Reader_Left.calls {K : Nat} {a0 : List Int} {a4 : Int} {a1 : Nat} {a2 : Option Addr} {a3 : Nat} {a5 : List Int} {a8 : Int} {a9 : Int} {B w : World} {os : List Ass} {rs : List Ro} (H : pack_Reader_Left.f K a0 a4 = some (a5, a8, a9)) (hS : St B w (Ass.box 112 a1 [sv a2 a3 a0, ia a4] :: os) (Ro.sl (Kd.int .u8) a2 a3 a0 :: rs)) :
  Calls Tryd.prog 40 [pt a1 0].toArray w (fun en w' => ∃ v, en = .returned v ∧ ∃ a6 : Option Addr, ∃ a7 : Nat, v = ia a9 ∧ St B w' (Ass.box 112 a1 [sv a6 a7 a5, ia a8] :: os) (Ro.sl (Kd.int .u8) a6 a7 a5 :: Ro.sl (Kd.int .u8) a2 a3 a0 :: rs)) := by
 unfold pack_Reader_Left.f at H
 refine calls_of_EW (args := [pt a1 0]) (c := Cd40) 8 Tryd.func40 (by kernel_rfl) (by kernel_rfl) (by kernel_rfl) ?_
 refine EW.sq (by kernel_rfl) ?_
 refine EW.rg (by kernel_rfl) ?_
 refine EL.quick 1 [0] [(0, pt a1 0)] (by kernel_rfl) ?_
 refine EL.done (by kernel_rfl) ?_
 refine EQ.code ?_
 refine EW.sq (by kernel_rfl) ?_
 refine EW.rg (by kernel_rfl) ?_
 refine EL.quick 3 [5] [(5, pt a1 0)] (by kernel_rfl) ?_
 refine EL.of (EO.Y (YO.loadBox hS 0 rfl 33 0 1 (sv a2 a3 a0) 6 (by kernel_rfl) (by kernel_rfl) (by kernel_rfl) (by kernel_rfl)) ?_)
 refine EL.quick 2 [2] [(2, ia (a0.length : Int))] (by kernel_rfl) ?_
 refine EL.done (by kernel_rfl) ?_
 refine EQ.code ?_
 refine EW.ret (by kernel_rfl) ?_
 simp only [sv, Option.some.injEq, Prod.mk.injEq] at H
 obtain ⟨rfl, rfl, rfl⟩ := H
 exact EQ.leave (ia (a0.length : Int)) (by kernel_rfl) ⟨_, rfl, a2, a3, rfl, (hS.re [0] [] rfl (sub_cons 0 rfl (sub_self)))⟩

end Go.Proofs.YtocdpimpkifdmaaDoor.G
