import Derived.Test.YtlcnkngpankkpaaProg
import Derived.Test.YtlcnkngpankkpaaFwEq
import Derived.Test.YtlcnkngpankkpaaFwOpen
import Derived.Test.YtlcnkngpankkpaaFwMap
namespace Go.Proofs.Ytlcnkngpankkpaa.G
open Go Go.Fw Go.RowKit Go.Proofs
set_option linter.unusedVariables false
set_option linter.unusedSimpArgs false

structure S32 where
 f0 : Int
 f1 : Int
deriving DecidableEq
def zS32 : S32 := ⟨0, 0⟩
def kS32 : Kd S32 := Kd.iso (Kd.prod (Kd.int .i64) (Kd.prod (Kd.int .i32) Kd.unit)) (fun s => (s.f0, s.f1, ()))
def encS32 (s : S32) : List Value := [.int .i64 s.f0, .int .i32 s.f1]
theorem encS32_of (w : World) (G : Bl) (vs : List Value) (x : S32) (h : kS32.rep w G vs x) : vs = encS32 x := by
 obtain ⟨_, _, rfl, h0, ⟨_, _, rfl, h1, hu⟩⟩ := h
 have h0 := encI_of _ _ _ _ h0
 have h1 := encI_of _ _ _ _ h1
 have hu : _ = [] := hu
 subst hu
 subst h0
 subst h1
 rfl

structure S113 where
 f0 : Int
 f1 : Int
 f2 : Int
deriving DecidableEq
def zS113 : S113 := ⟨0, 0, 0⟩
def kS113 : Kd S113 := Kd.iso (Kd.prod (Kd.int .i64) (Kd.prod (Kd.int .i64) (Kd.prod (Kd.int .i64) Kd.unit))) (fun s => (s.f0, s.f1, s.f2, ()))
def encS113 (s : S113) : List Value := [.int .i64 s.f0, .int .i64 s.f1, .int .i64 s.f2]
theorem encS113_of (w : World) (G : Bl) (vs : List Value) (x : S113) (h : kS113.rep w G vs x) : vs = encS113 x := by
 obtain ⟨_, _, rfl, h0, ⟨_, _, rfl, h1, ⟨_, _, rfl, h2, hu⟩⟩⟩ := h
 have h0 := encI_of _ _ _ _ h0
 have h1 := encI_of _ _ _ _ h1
 have h2 := encI_of _ _ _ _ h2
 have hu : _ = [] := hu
 subst hu
 subst h0
 subst h1
 subst h2
 rfl

noncomputable def Cd4 : Code := bodyOf Try.f4

noncomputable def Cd12 : Code := bodyOf Try.f12

noncomputable def Cd16 : Code := bodyOf Try.f16

noncomputable def Cd19 : Code := bodyOf Try.f19

noncomputable def Cd21 : Code := bodyOf Try.f21

noncomputable def Cd42 : Code := bodyOf Try.f42

noncomputable def Cd43 : Code := bodyOf Try.f43

noncomputable def Cd60 : Code := bodyOf Try.f60

noncomputable def Cd61 : Code := bodyOf Try.f61

noncomputable def Cd62 : Code := bodyOf Try.f62

noncomputable def Cd63 : Code := bodyOf Try.f63

noncomputable def Cd64 : Code := bodyOf Try.f64

noncomputable def Cd69 : Code := bodyOf Try.f69

noncomputable def Cd84 : Code := bodyOf Try.f84

noncomputable def Cd85 : Code := bodyOf Try.f85

/-! ### confidant/ops.Known: function 69 -/
def ops_Known.f (K : Nat) (a47 : Int) : Option Bool := if a47 ≥ 1 then (some (decide (a47 ≤ 26))) else (some false)
set_option maxRecDepth 100000 in
theorem ops_Known.calls {K : Nat} {a47 : Int} {x49 : Bool} {B w : World} {os : List Ass} {rs : List Ro} (H : ops_Known.f K a47 = some x49) (hS : St B w (os) (rs)) :
  Calls Try.prog 69 [.int .i64 a47].toArray w (fun en w' => ∃ v, en = .returned v ∧ v = .bool (x49) ∧ St B w' (os) (rs)) := by
 unfold ops_Known.f at H
 refine calls_of_EW (args := [.int .i64 a47]) (c := Cd69) 9 Try.func69 (by kernel_rfl) (by kernel_rfl) (by kernel_rfl) ?_
 refine EW.seq (x := Cd69.l) (y := Cd69.r) (by kernel_rfl) ?_
 refine EW.region (id := 0) (ops := Cd69.l.ops) (by kernel_rfl) ?_
 refine EL.quick 1 [0] [(0, .int .i64 a47)] (by kernel_rfl) ?_
 refine EL.done (by kernel_rfl) ?_
 refine EQ.code ?_
 refine EW.seq (x := Cd69.r.l) (y := Cd69.r.r) (by kernel_rfl) ?_
 refine EW.region (id := 1) (ops := Cd69.r.l.ops) (by kernel_rfl) ?_
 refine EL.quick 3 [0, 5] [(0, .int .i64 a47), (5, .bool (decide (a47 ≥ 1)))] (by kernel_rfl) ?_
 by_cases h50 : a47 ≥ 1
 ·rw [if_pos h50] at H
  refine EL.keep [0, 5] [(0, .int .i64 a47), (5, .bool (decide (a47 ≥ 1)))] (by kernel_rfl) ?_
  refine EL.as' [(0, .int .i64 a47), (5, .bool (true))] (by simp only [dec_t h50, Bool.not_true, Bool.not_false]) ?_
  refine EL.quick 4 [2] [(2, .bool (decide (a47 ≤ 26)))] (by kernel_rfl) ?_
  refine EL.done (by kernel_rfl) ?_
  refine EQ.code ?_
  refine EW.ret (by kernel_rfl) ?_
  obtain rfl := Option.some.inj H
  exact EQ.leave (.bool (decide (a47 ≤ 26))) (by kernel_rfl) ⟨_, rfl, rfl, (hS.re [] [] rfl (sub_self))⟩
 ·rw [if_neg h50] at H
  refine EL.keep [0, 5] [(0, .int .i64 a47), (5, .bool (decide (a47 ≥ 1)))] (by kernel_rfl) ?_
  refine EL.as' [(0, .int .i64 a47), (5, .bool (false))] (by simp only [dec_f h50, Bool.not_true, Bool.not_false]) ?_
  refine EL.quick 4 [2] [(2, .bool (false))] (by kernel_rfl) ?_
  refine EL.done (by kernel_rfl) ?_
  refine EQ.code ?_
  refine EW.ret (by kernel_rfl) ?_
  obtain rfl := Option.some.inj H
  exact EQ.leave (.bool (false)) (by kernel_rfl) ⟨_, rfl, rfl, (hS.re [] [] rfl (sub_self))⟩

/-! ### confidant/ops.of: function 84 -/
def ops_of.f (K : Nat) (a44 : Int) : Option S113 := b1 (ops_Known.f K a44) fun (a1 : Bool) => (if a1 = true then (if a44 = 0 then (some (⟨0, 0, 0⟩ : S113)) else (if a44 = 1 then (some (⟨1, 0, 1⟩ : S113)) else (if a44 = 2 then (some (⟨0, 1, 0⟩ : S113)) else (if a44 = 3 then (some (⟨0, 1, 2⟩ : S113)) else (if a44 = 4 then (some (⟨0, 2, 1⟩ : S113)) else (if a44 = 5 then (some (⟨0, 2, 1⟩ : S113)) else (if a44 = 6 then (some (⟨0, 2, 1⟩ : S113)) else (if a44 = 7 then (some (⟨0, 2, 1⟩ : S113)) else (if a44 = 8 then (some (⟨0, 2, 1⟩ : S113)) else (if a44 = 9 then (some (⟨0, 2, 1⟩ : S113)) else (if a44 = 10 then (some (⟨2, 0, 0⟩ : S113)) else (if a44 = 11 then (some (⟨2, 1, 0⟩ : S113)) else (if a44 = 12 then (some (⟨3, 0, 1⟩ : S113)) else (if a44 = 13 then (some (⟨3, 1, 0⟩ : S113)) else (if a44 = 14 then (some (⟨0, 0, 1⟩ : S113)) else (if a44 = 15 then (some (⟨4, 0, 0⟩ : S113)) else (if a44 = 16 then (some (⟨4, 1, 1⟩ : S113)) else (if a44 = 17 then (some (⟨4, 1, 1⟩ : S113)) else (if a44 = 18 then (some (⟨0, 1, 1⟩ : S113)) else (if a44 = 19 then (some (⟨0, 2, 0⟩ : S113)) else (if a44 = 20 then (some (⟨5, 2, 1⟩ : S113)) else (if a44 = 21 then (some (⟨0, 1, 1⟩ : S113)) else (if a44 = 22 then (some (⟨4, 1, 0⟩ : S113)) else (if a44 = 23 then (some (⟨6, 1, 1⟩ : S113)) else (if a44 = 24 then (some (⟨6, 0, 2⟩ : S113)) else (if a44 = 25 then (some (⟨0, 1, 0⟩ : S113)) else (if a44 = 26 then (some (⟨1, 0, 0⟩ : S113)) else (none)))))))))))))))))))))))))))) else (some (⟨0, 0, 0⟩ : S113)))
set_option maxRecDepth 100000 in
theorem ops_of.calls {K : Nat} {a44 : Int} {x90 : S113} {B w : World} {os : List Ass} {rs : List Ro} (H : ops_of.f K a44 = some x90) (hS : St B w (os) (rs)) :
  Calls Try.prog 84 [.int .i64 a44].toArray w (fun en w' => ∃ v, en = .returned v ∧ v = .agg #[.int .i64 x90.f0, .int .i64 x90.f1, .int .i64 x90.f2] ∧ St B w' (os) (rs)) := by
 unfold ops_of.f at H
 refine calls_of_EW (args := [.int .i64 a44]) (c := Cd84) 38 Try.func84 (by kernel_rfl) (by kernel_rfl) (by kernel_rfl) ?_
 refine EW.seq (x := Cd84.l) (y := Cd84.r) (by kernel_rfl) ?_
 refine EW.region (id := 0) (ops := Cd84.l.ops) (by kernel_rfl) ?_
 refine EL.of (EO.alloc hS 113 (.agg #[.int .i64 0, .int .i64 0, .int .i64 0]) [.int .i64 0, .int .i64 0, .int .i64 0] 2 (by kernel_rfl) (by kernel_rfl) (by kernel_rfl) (by kernel_rfl) (by first | rfl | kernel_rfl) ?_)
 intro g92 w hS
 refine EL.done (by kernel_rfl) ?_
 refine EQ.code ?_
 refine EW.seq (x := Cd84.r.l) (y := Cd84.r.r) (by kernel_rfl) ?_
 refine EW.seq (x := Cd84.r.l.l) (y := Cd84.r.l.r) (by kernel_rfl) ?_
 refine EW.region (id := 1) (ops := Cd84.r.l.l.ops) (by kernel_rfl) ?_
 refine EL.quick 1 [0, 2, 4] [(0, .int .i64 a44), (2, .pointer (some ⟨g92, 0, none⟩)), (4, .int .i64 a44)] (by kernel_rfl) ?_
 obtain ⟨a1, d1, H⟩ := b1_out H
 refine EL.of (EO.callD 69 [.int .i64 a44] _ 5 (by kernel_rfl) (by kernel_rfl) (by kernel_rfl) (ops_Known.calls d1 hS) ?_)
 rintro v w ⟨rfl, hS⟩
 refine EL.quick 1 [0, 2, 6] [(0, .int .i64 a44), (2, .pointer (some ⟨g92, 0, none⟩)), (6, .bool (!(a1)))] (by kernel_rfl) ?_
 refine EL.done (by kernel_rfl) ?_
 refine EQ.code ?_
 refine EW.condQ (b := !(a1)) (o := (.tmp 6)) (x := Cd84.r.l.r.l) (y := Cd84.r.l.r.r) (a1 = true) (false) (by kernel_rfl) (by kernel_rfl) ⟨fun h => (by rw [h] <;> rfl), fun h => (by rw [Bool.eq_false_iff.2 h] <;> rfl)⟩ (fun a2 => ?_) (fun a2 => ?_)
 ·rw [if_pos a2] at H
  refine EW.skip (by kernel_rfl) ?_
  refine EQ.code ?_
  refine EW.seq (x := Cd84.r.r.l) (y := Cd84.r.r.r) (by kernel_rfl) ?_
  refine EW.region (id := 3) (ops := Cd84.r.r.l.ops) (by kernel_rfl) ?_
  refine EL.quick 27 [0, 2, 34] [(0, .int .i64 a44), (2, .pointer (some ⟨g92, 0, none⟩)), (34, .agg #[.int .i64 0, .int .i64 0, .int .i64 0, .int .i64 1, .int .i64 0, .int .i64 1, .int .i64 0, .int .i64 1, .int .i64 0, .int .i64 0, .int .i64 1, .int .i64 2, .int .i64 0, .int .i64 2, .int .i64 1, .int .i64 0, .int .i64 2, .int .i64 1, .int .i64 0, .int .i64 2, .int .i64 1, .int .i64 0, .int .i64 2, .int .i64 1, .int .i64 0, .int .i64 2, .int .i64 1, .int .i64 0, .int .i64 2, .int .i64 1, .int .i64 2, .int .i64 0, .int .i64 0, .int .i64 2, .int .i64 1, .int .i64 0, .int .i64 3, .int .i64 0, .int .i64 1, .int .i64 3, .int .i64 1, .int .i64 0, .int .i64 0, .int .i64 0, .int .i64 1, .int .i64 4, .int .i64 0, .int .i64 0, .int .i64 4, .int .i64 1, .int .i64 1, .int .i64 4, .int .i64 1, .int .i64 1, .int .i64 0, .int .i64 1, .int .i64 1, .int .i64 0, .int .i64 2, .int .i64 0, .int .i64 5, .int .i64 2, .int .i64 1, .int .i64 0, .int .i64 1, .int .i64 1, .int .i64 4, .int .i64 1, .int .i64 0, .int .i64 6, .int .i64 1, .int .i64 1, .int .i64 6, .int .i64 0, .int .i64 2, .int .i64 0, .int .i64 1, .int .i64 0, .int .i64 1, .int .i64 0, .int .i64 0])] (by kernel_rfl) ?_
  refine EL.of (EO.alloc hS 119 (.agg #[.int .i64 0, .int .i64 0, .int .i64 0, .int .i64 0, .int .i64 0, .int .i64 0, .int .i64 0, .int .i64 0, .int .i64 0, .int .i64 0, .int .i64 0, .int .i64 0, .int .i64 0, .int .i64 0, .int .i64 0, .int .i64 0, .int .i64 0, .int .i64 0, .int .i64 0, .int .i64 0, .int .i64 0, .int .i64 0, .int .i64 0, .int .i64 0, .int .i64 0, .int .i64 0, .int .i64 0, .int .i64 0, .int .i64 0, .int .i64 0, .int .i64 0, .int .i64 0, .int .i64 0, .int .i64 0, .int .i64 0, .int .i64 0, .int .i64 0, .int .i64 0, .int .i64 0, .int .i64 0, .int .i64 0, .int .i64 0, .int .i64 0, .int .i64 0, .int .i64 0, .int .i64 0, .int .i64 0, .int .i64 0, .int .i64 0, .int .i64 0, .int .i64 0, .int .i64 0, .int .i64 0, .int .i64 0, .int .i64 0, .int .i64 0, .int .i64 0, .int .i64 0, .int .i64 0, .int .i64 0, .int .i64 0, .int .i64 0, .int .i64 0, .int .i64 0, .int .i64 0, .int .i64 0, .int .i64 0, .int .i64 0, .int .i64 0, .int .i64 0, .int .i64 0, .int .i64 0, .int .i64 0, .int .i64 0, .int .i64 0, .int .i64 0, .int .i64 0, .int .i64 0, .int .i64 0, .int .i64 0, .int .i64 0]) [.int .i64 0, .int .i64 0, .int .i64 0, .int .i64 0, .int .i64 0, .int .i64 0, .int .i64 0, .int .i64 0, .int .i64 0, .int .i64 0, .int .i64 0, .int .i64 0, .int .i64 0, .int .i64 0, .int .i64 0, .int .i64 0, .int .i64 0, .int .i64 0, .int .i64 0, .int .i64 0, .int .i64 0, .int .i64 0, .int .i64 0, .int .i64 0, .int .i64 0, .int .i64 0, .int .i64 0, .int .i64 0, .int .i64 0, .int .i64 0, .int .i64 0, .int .i64 0, .int .i64 0, .int .i64 0, .int .i64 0, .int .i64 0, .int .i64 0, .int .i64 0, .int .i64 0, .int .i64 0, .int .i64 0, .int .i64 0, .int .i64 0, .int .i64 0, .int .i64 0, .int .i64 0, .int .i64 0, .int .i64 0, .int .i64 0, .int .i64 0, .int .i64 0, .int .i64 0, .int .i64 0, .int .i64 0, .int .i64 0, .int .i64 0, .int .i64 0, .int .i64 0, .int .i64 0, .int .i64 0, .int .i64 0, .int .i64 0, .int .i64 0, .int .i64 0, .int .i64 0, .int .i64 0, .int .i64 0, .int .i64 0, .int .i64 0, .int .i64 0, .int .i64 0, .int .i64 0, .int .i64 0, .int .i64 0, .int .i64 0, .int .i64 0, .int .i64 0, .int .i64 0, .int .i64 0, .int .i64 0, .int .i64 0] 3 (by kernel_rfl) (by kernel_rfl) (by kernel_rfl) (by kernel_rfl) (by first | rfl | kernel_rfl) ?_)
  intro a0 w hS
  refine EL.of (EO.storeBox (os' := Ass.box 119 a0 [.int .i64 0, .int .i64 0, .int .i64 0, .int .i64 1, .int .i64 0, .int .i64 1, .int .i64 0, .int .i64 1, .int .i64 0, .int .i64 0, .int .i64 1, .int .i64 2, .int .i64 0, .int .i64 2, .int .i64 1, .int .i64 0, .int .i64 2, .int .i64 1, .int .i64 0, .int .i64 2, .int .i64 1, .int .i64 0, .int .i64 2, .int .i64 1, .int .i64 0, .int .i64 2, .int .i64 1, .int .i64 0, .int .i64 2, .int .i64 1, .int .i64 2, .int .i64 0, .int .i64 0, .int .i64 2, .int .i64 1, .int .i64 0, .int .i64 3, .int .i64 0, .int .i64 1, .int .i64 3, .int .i64 1, .int .i64 0, .int .i64 0, .int .i64 0, .int .i64 1, .int .i64 4, .int .i64 0, .int .i64 0, .int .i64 4, .int .i64 1, .int .i64 1, .int .i64 4, .int .i64 1, .int .i64 1, .int .i64 0, .int .i64 1, .int .i64 1, .int .i64 0, .int .i64 2, .int .i64 0, .int .i64 5, .int .i64 2, .int .i64 1, .int .i64 0, .int .i64 1, .int .i64 1, .int .i64 4, .int .i64 1, .int .i64 0, .int .i64 6, .int .i64 1, .int .i64 1, .int .i64 6, .int .i64 0, .int .i64 2, .int .i64 0, .int .i64 1, .int .i64 0, .int .i64 1, .int .i64 0, .int .i64 0] :: Ass.box 113 g92 [.int .i64 0, .int .i64 0, .int .i64 0] :: os) hS 0 rfl 119 0 (.agg #[.int .i64 0, .int .i64 0, .int .i64 0, .int .i64 1, .int .i64 0, .int .i64 1, .int .i64 0, .int .i64 1, .int .i64 0, .int .i64 0, .int .i64 1, .int .i64 2, .int .i64 0, .int .i64 2, .int .i64 1, .int .i64 0, .int .i64 2, .int .i64 1, .int .i64 0, .int .i64 2, .int .i64 1, .int .i64 0, .int .i64 2, .int .i64 1, .int .i64 0, .int .i64 2, .int .i64 1, .int .i64 0, .int .i64 2, .int .i64 1, .int .i64 2, .int .i64 0, .int .i64 0, .int .i64 2, .int .i64 1, .int .i64 0, .int .i64 3, .int .i64 0, .int .i64 1, .int .i64 3, .int .i64 1, .int .i64 0, .int .i64 0, .int .i64 0, .int .i64 1, .int .i64 4, .int .i64 0, .int .i64 0, .int .i64 4, .int .i64 1, .int .i64 1, .int .i64 4, .int .i64 1, .int .i64 1, .int .i64 0, .int .i64 1, .int .i64 1, .int .i64 0, .int .i64 2, .int .i64 0, .int .i64 5, .int .i64 2, .int .i64 1, .int .i64 0, .int .i64 1, .int .i64 1, .int .i64 4, .int .i64 1, .int .i64 0, .int .i64 6, .int .i64 1, .int .i64 1, .int .i64 6, .int .i64 0, .int .i64 2, .int .i64 0, .int .i64 1, .int .i64 0, .int .i64 1, .int .i64 0, .int .i64 0]) [.int .i64 0, .int .i64 0, .int .i64 0, .int .i64 1, .int .i64 0, .int .i64 1, .int .i64 0, .int .i64 1, .int .i64 0, .int .i64 0, .int .i64 1, .int .i64 2, .int .i64 0, .int .i64 2, .int .i64 1, .int .i64 0, .int .i64 2, .int .i64 1, .int .i64 0, .int .i64 2, .int .i64 1, .int .i64 0, .int .i64 2, .int .i64 1, .int .i64 0, .int .i64 2, .int .i64 1, .int .i64 0, .int .i64 2, .int .i64 1, .int .i64 2, .int .i64 0, .int .i64 0, .int .i64 2, .int .i64 1, .int .i64 0, .int .i64 3, .int .i64 0, .int .i64 1, .int .i64 3, .int .i64 1, .int .i64 0, .int .i64 0, .int .i64 0, .int .i64 1, .int .i64 4, .int .i64 0, .int .i64 0, .int .i64 4, .int .i64 1, .int .i64 1, .int .i64 4, .int .i64 1, .int .i64 1, .int .i64 0, .int .i64 1, .int .i64 1, .int .i64 0, .int .i64 2, .int .i64 0, .int .i64 5, .int .i64 2, .int .i64 1, .int .i64 0, .int .i64 1, .int .i64 1, .int .i64 4, .int .i64 1, .int .i64 0, .int .i64 6, .int .i64 1, .int .i64 1, .int .i64 6, .int .i64 0, .int .i64 2, .int .i64 0, .int .i64 1, .int .i64 0, .int .i64 1, .int .i64 0, .int .i64 0] (by kernel_rfl) (by kernel_rfl) (by kernel_rfl) (by kernel_rfl) (by kernel_rfl) (by kernel_rfl) rfl rfl ?_)
  intro w hS
  refine EL.done (by kernel_rfl) ?_
  refine EQ.code ?_
  refine EW.seq (x := Cd84.r.r.r.l) (y := Cd84.r.r.r.r) (by kernel_rfl) ?_
  refine EW.region (id := 4) (ops := Cd84.r.r.r.l.ops) (by kernel_rfl) ?_
  refine EL.quick 1 [2, 3, 35] [(2, .pointer (some ⟨g92, 0, none⟩)), (3, .pointer (some ⟨a0, 0, none⟩)), (35, .int .i64 a44)] (by kernel_rfl) ?_
  by_cases a3 : a44 = 0
  ·rw [if_pos a3] at H
   refine EL.keep [2, 3, 35] [(2, .pointer (some ⟨g92, 0, none⟩)), (3, .pointer (some ⟨a0, 0, none⟩)), (35, .int .i64 a44)] (by kernel_rfl) ?_
   refine EL.as' [(2, .pointer (some ⟨g92, 0, none⟩)), (3, .pointer (some ⟨a0, 0, none⟩)), (35, .int .i64 0)] (by simp only [a3]) ?_
   refine EL.quick 1 [2, 36] [(2, .pointer (some ⟨g92, 0, none⟩)), (36, .pointer (some ⟨a0, 0, none⟩))] (by kernel_rfl) ?_
   refine EL.of (EO.Y (YO.loadBox hS 0 rfl 113 0 3 (.agg #[.int .i64 0, .int .i64 0, .int .i64 0]) 37 (by kernel_rfl) (by kernel_rfl) (by kernel_rfl) (by kernel_rfl)) ?_)
   refine EL.of (EO.storeBox (os' := Ass.box 119 a0 [.int .i64 0, .int .i64 0, .int .i64 0, .int .i64 1, .int .i64 0, .int .i64 1, .int .i64 0, .int .i64 1, .int .i64 0, .int .i64 0, .int .i64 1, .int .i64 2, .int .i64 0, .int .i64 2, .int .i64 1, .int .i64 0, .int .i64 2, .int .i64 1, .int .i64 0, .int .i64 2, .int .i64 1, .int .i64 0, .int .i64 2, .int .i64 1, .int .i64 0, .int .i64 2, .int .i64 1, .int .i64 0, .int .i64 2, .int .i64 1, .int .i64 2, .int .i64 0, .int .i64 0, .int .i64 2, .int .i64 1, .int .i64 0, .int .i64 3, .int .i64 0, .int .i64 1, .int .i64 3, .int .i64 1, .int .i64 0, .int .i64 0, .int .i64 0, .int .i64 1, .int .i64 4, .int .i64 0, .int .i64 0, .int .i64 4, .int .i64 1, .int .i64 1, .int .i64 4, .int .i64 1, .int .i64 1, .int .i64 0, .int .i64 1, .int .i64 1, .int .i64 0, .int .i64 2, .int .i64 0, .int .i64 5, .int .i64 2, .int .i64 1, .int .i64 0, .int .i64 1, .int .i64 1, .int .i64 4, .int .i64 1, .int .i64 0, .int .i64 6, .int .i64 1, .int .i64 1, .int .i64 6, .int .i64 0, .int .i64 2, .int .i64 0, .int .i64 1, .int .i64 0, .int .i64 1, .int .i64 0, .int .i64 0] :: Ass.box 113 g92 [.int .i64 0, .int .i64 0, .int .i64 0] :: os) hS 1 rfl 113 0 (.agg #[.int .i64 0, .int .i64 0, .int .i64 0]) [.int .i64 0, .int .i64 0, .int .i64 0] (by kernel_rfl) (by kernel_rfl) (by kernel_rfl) (by kernel_rfl) (by kernel_rfl) (by kernel_rfl) rfl rfl ?_)
   intro w hS
   refine EL.done (by kernel_rfl) ?_
   refine EQ.code ?_
   refine EW.ret (by kernel_rfl) ?_
   obtain rfl := Option.some.inj H
   exact EQ.leaveC hS 1 rfl 2 113 0 3 (.agg #[.int .i64 0, .int .i64 0, .int .i64 0]) (by kernel_rfl) (by kernel_rfl) (by kernel_rfl) ⟨_, rfl, rfl, (hS.re [] [0, 0] rfl (sub_self))⟩
  ·rw [if_neg a3] at H
   by_cases a4 : a44 = 1
   ·rw [if_pos a4] at H
    refine EL.keep [2, 3, 35] [(2, .pointer (some ⟨g92, 0, none⟩)), (3, .pointer (some ⟨a0, 0, none⟩)), (35, .int .i64 a44)] (by kernel_rfl) ?_
    refine EL.as' [(2, .pointer (some ⟨g92, 0, none⟩)), (3, .pointer (some ⟨a0, 0, none⟩)), (35, .int .i64 1)] (by simp only [a4]) ?_
    refine EL.quick 1 [2, 36] [(2, .pointer (some ⟨g92, 0, none⟩)), (36, .pointer (some ⟨a0, 3, none⟩))] (by kernel_rfl) ?_
    refine EL.of (EO.Y (YO.loadBox hS 0 rfl 113 3 3 (.agg #[.int .i64 1, .int .i64 0, .int .i64 1]) 37 (by kernel_rfl) (by kernel_rfl) (by kernel_rfl) (by kernel_rfl)) ?_)
    refine EL.of (EO.storeBox (os' := Ass.box 119 a0 [.int .i64 0, .int .i64 0, .int .i64 0, .int .i64 1, .int .i64 0, .int .i64 1, .int .i64 0, .int .i64 1, .int .i64 0, .int .i64 0, .int .i64 1, .int .i64 2, .int .i64 0, .int .i64 2, .int .i64 1, .int .i64 0, .int .i64 2, .int .i64 1, .int .i64 0, .int .i64 2, .int .i64 1, .int .i64 0, .int .i64 2, .int .i64 1, .int .i64 0, .int .i64 2, .int .i64 1, .int .i64 0, .int .i64 2, .int .i64 1, .int .i64 2, .int .i64 0, .int .i64 0, .int .i64 2, .int .i64 1, .int .i64 0, .int .i64 3, .int .i64 0, .int .i64 1, .int .i64 3, .int .i64 1, .int .i64 0, .int .i64 0, .int .i64 0, .int .i64 1, .int .i64 4, .int .i64 0, .int .i64 0, .int .i64 4, .int .i64 1, .int .i64 1, .int .i64 4, .int .i64 1, .int .i64 1, .int .i64 0, .int .i64 1, .int .i64 1, .int .i64 0, .int .i64 2, .int .i64 0, .int .i64 5, .int .i64 2, .int .i64 1, .int .i64 0, .int .i64 1, .int .i64 1, .int .i64 4, .int .i64 1, .int .i64 0, .int .i64 6, .int .i64 1, .int .i64 1, .int .i64 6, .int .i64 0, .int .i64 2, .int .i64 0, .int .i64 1, .int .i64 0, .int .i64 1, .int .i64 0, .int .i64 0] :: Ass.box 113 g92 [.int .i64 1, .int .i64 0, .int .i64 1] :: os) hS 1 rfl 113 0 (.agg #[.int .i64 1, .int .i64 0, .int .i64 1]) [.int .i64 1, .int .i64 0, .int .i64 1] (by kernel_rfl) (by kernel_rfl) (by kernel_rfl) (by kernel_rfl) (by kernel_rfl) (by kernel_rfl) rfl rfl ?_)
    intro w hS
    refine EL.done (by kernel_rfl) ?_
    refine EQ.code ?_
    refine EW.ret (by kernel_rfl) ?_
    obtain rfl := Option.some.inj H
    exact EQ.leaveC hS 1 rfl 2 113 0 3 (.agg #[.int .i64 1, .int .i64 0, .int .i64 1]) (by kernel_rfl) (by kernel_rfl) (by kernel_rfl) ⟨_, rfl, rfl, (hS.re [] [0, 0] rfl (sub_self))⟩
   ·rw [if_neg a4] at H
    by_cases a5 : a44 = 2
    ·rw [if_pos a5] at H
     refine EL.keep [2, 3, 35] [(2, .pointer (some ⟨g92, 0, none⟩)), (3, .pointer (some ⟨a0, 0, none⟩)), (35, .int .i64 a44)] (by kernel_rfl) ?_
     refine EL.as' [(2, .pointer (some ⟨g92, 0, none⟩)), (3, .pointer (some ⟨a0, 0, none⟩)), (35, .int .i64 2)] (by simp only [a5]) ?_
     refine EL.quick 1 [2, 36] [(2, .pointer (some ⟨g92, 0, none⟩)), (36, .pointer (some ⟨a0, 6, none⟩))] (by kernel_rfl) ?_
     refine EL.of (EO.Y (YO.loadBox hS 0 rfl 113 6 3 (.agg #[.int .i64 0, .int .i64 1, .int .i64 0]) 37 (by kernel_rfl) (by kernel_rfl) (by kernel_rfl) (by kernel_rfl)) ?_)
     refine EL.of (EO.storeBox (os' := Ass.box 119 a0 [.int .i64 0, .int .i64 0, .int .i64 0, .int .i64 1, .int .i64 0, .int .i64 1, .int .i64 0, .int .i64 1, .int .i64 0, .int .i64 0, .int .i64 1, .int .i64 2, .int .i64 0, .int .i64 2, .int .i64 1, .int .i64 0, .int .i64 2, .int .i64 1, .int .i64 0, .int .i64 2, .int .i64 1, .int .i64 0, .int .i64 2, .int .i64 1, .int .i64 0, .int .i64 2, .int .i64 1, .int .i64 0, .int .i64 2, .int .i64 1, .int .i64 2, .int .i64 0, .int .i64 0, .int .i64 2, .int .i64 1, .int .i64 0, .int .i64 3, .int .i64 0, .int .i64 1, .int .i64 3, .int .i64 1, .int .i64 0, .int .i64 0, .int .i64 0, .int .i64 1, .int .i64 4, .int .i64 0, .int .i64 0, .int .i64 4, .int .i64 1, .int .i64 1, .int .i64 4, .int .i64 1, .int .i64 1, .int .i64 0, .int .i64 1, .int .i64 1, .int .i64 0, .int .i64 2, .int .i64 0, .int .i64 5, .int .i64 2, .int .i64 1, .int .i64 0, .int .i64 1, .int .i64 1, .int .i64 4, .int .i64 1, .int .i64 0, .int .i64 6, .int .i64 1, .int .i64 1, .int .i64 6, .int .i64 0, .int .i64 2, .int .i64 0, .int .i64 1, .int .i64 0, .int .i64 1, .int .i64 0, .int .i64 0] :: Ass.box 113 g92 [.int .i64 0, .int .i64 1, .int .i64 0] :: os) hS 1 rfl 113 0 (.agg #[.int .i64 0, .int .i64 1, .int .i64 0]) [.int .i64 0, .int .i64 1, .int .i64 0] (by kernel_rfl) (by kernel_rfl) (by kernel_rfl) (by kernel_rfl) (by kernel_rfl) (by kernel_rfl) rfl rfl ?_)
     intro w hS
     refine EL.done (by kernel_rfl) ?_
     refine EQ.code ?_
     refine EW.ret (by kernel_rfl) ?_
     obtain rfl := Option.some.inj H
     exact EQ.leaveC hS 1 rfl 2 113 0 3 (.agg #[.int .i64 0, .int .i64 1, .int .i64 0]) (by kernel_rfl) (by kernel_rfl) (by kernel_rfl) ⟨_, rfl, rfl, (hS.re [] [0, 0] rfl (sub_self))⟩
    ·rw [if_neg a5] at H
     by_cases a6 : a44 = 3
     ·rw [if_pos a6] at H
      refine EL.keep [2, 3, 35] [(2, .pointer (some ⟨g92, 0, none⟩)), (3, .pointer (some ⟨a0, 0, none⟩)), (35, .int .i64 a44)] (by kernel_rfl) ?_
      refine EL.as' [(2, .pointer (some ⟨g92, 0, none⟩)), (3, .pointer (some ⟨a0, 0, none⟩)), (35, .int .i64 3)] (by simp only [a6]) ?_
      refine EL.quick 1 [2, 36] [(2, .pointer (some ⟨g92, 0, none⟩)), (36, .pointer (some ⟨a0, 9, none⟩))] (by kernel_rfl) ?_
      refine EL.of (EO.Y (YO.loadBox hS 0 rfl 113 9 3 (.agg #[.int .i64 0, .int .i64 1, .int .i64 2]) 37 (by kernel_rfl) (by kernel_rfl) (by kernel_rfl) (by kernel_rfl)) ?_)
      refine EL.of (EO.storeBox (os' := Ass.box 119 a0 [.int .i64 0, .int .i64 0, .int .i64 0, .int .i64 1, .int .i64 0, .int .i64 1, .int .i64 0, .int .i64 1, .int .i64 0, .int .i64 0, .int .i64 1, .int .i64 2, .int .i64 0, .int .i64 2, .int .i64 1, .int .i64 0, .int .i64 2, .int .i64 1, .int .i64 0, .int .i64 2, .int .i64 1, .int .i64 0, .int .i64 2, .int .i64 1, .int .i64 0, .int .i64 2, .int .i64 1, .int .i64 0, .int .i64 2, .int .i64 1, .int .i64 2, .int .i64 0, .int .i64 0, .int .i64 2, .int .i64 1, .int .i64 0, .int .i64 3, .int .i64 0, .int .i64 1, .int .i64 3, .int .i64 1, .int .i64 0, .int .i64 0, .int .i64 0, .int .i64 1, .int .i64 4, .int .i64 0, .int .i64 0, .int .i64 4, .int .i64 1, .int .i64 1, .int .i64 4, .int .i64 1, .int .i64 1, .int .i64 0, .int .i64 1, .int .i64 1, .int .i64 0, .int .i64 2, .int .i64 0, .int .i64 5, .int .i64 2, .int .i64 1, .int .i64 0, .int .i64 1, .int .i64 1, .int .i64 4, .int .i64 1, .int .i64 0, .int .i64 6, .int .i64 1, .int .i64 1, .int .i64 6, .int .i64 0, .int .i64 2, .int .i64 0, .int .i64 1, .int .i64 0, .int .i64 1, .int .i64 0, .int .i64 0] :: Ass.box 113 g92 [.int .i64 0, .int .i64 1, .int .i64 2] :: os) hS 1 rfl 113 0 (.agg #[.int .i64 0, .int .i64 1, .int .i64 2]) [.int .i64 0, .int .i64 1, .int .i64 2] (by kernel_rfl) (by kernel_rfl) (by kernel_rfl) (by kernel_rfl) (by kernel_rfl) (by kernel_rfl) rfl rfl ?_)
      intro w hS
      refine EL.done (by kernel_rfl) ?_
      refine EQ.code ?_
      refine EW.ret (by kernel_rfl) ?_
      obtain rfl := Option.some.inj H
      exact EQ.leaveC hS 1 rfl 2 113 0 3 (.agg #[.int .i64 0, .int .i64 1, .int .i64 2]) (by kernel_rfl) (by kernel_rfl) (by kernel_rfl) ⟨_, rfl, rfl, (hS.re [] [0, 0] rfl (sub_self))⟩
     ·rw [if_neg a6] at H
      by_cases a7 : a44 = 4
      ·rw [if_pos a7] at H
       refine EL.keep [2, 3, 35] [(2, .pointer (some ⟨g92, 0, none⟩)), (3, .pointer (some ⟨a0, 0, none⟩)), (35, .int .i64 a44)] (by kernel_rfl) ?_
       refine EL.as' [(2, .pointer (some ⟨g92, 0, none⟩)), (3, .pointer (some ⟨a0, 0, none⟩)), (35, .int .i64 4)] (by simp only [a7]) ?_
       refine EL.quick 1 [2, 36] [(2, .pointer (some ⟨g92, 0, none⟩)), (36, .pointer (some ⟨a0, 12, none⟩))] (by kernel_rfl) ?_
       refine EL.of (EO.Y (YO.loadBox hS 0 rfl 113 12 3 (.agg #[.int .i64 0, .int .i64 2, .int .i64 1]) 37 (by kernel_rfl) (by kernel_rfl) (by kernel_rfl) (by kernel_rfl)) ?_)
       refine EL.of (EO.storeBox (os' := Ass.box 119 a0 [.int .i64 0, .int .i64 0, .int .i64 0, .int .i64 1, .int .i64 0, .int .i64 1, .int .i64 0, .int .i64 1, .int .i64 0, .int .i64 0, .int .i64 1, .int .i64 2, .int .i64 0, .int .i64 2, .int .i64 1, .int .i64 0, .int .i64 2, .int .i64 1, .int .i64 0, .int .i64 2, .int .i64 1, .int .i64 0, .int .i64 2, .int .i64 1, .int .i64 0, .int .i64 2, .int .i64 1, .int .i64 0, .int .i64 2, .int .i64 1, .int .i64 2, .int .i64 0, .int .i64 0, .int .i64 2, .int .i64 1, .int .i64 0, .int .i64 3, .int .i64 0, .int .i64 1, .int .i64 3, .int .i64 1, .int .i64 0, .int .i64 0, .int .i64 0, .int .i64 1, .int .i64 4, .int .i64 0, .int .i64 0, .int .i64 4, .int .i64 1, .int .i64 1, .int .i64 4, .int .i64 1, .int .i64 1, .int .i64 0, .int .i64 1, .int .i64 1, .int .i64 0, .int .i64 2, .int .i64 0, .int .i64 5, .int .i64 2, .int .i64 1, .int .i64 0, .int .i64 1, .int .i64 1, .int .i64 4, .int .i64 1, .int .i64 0, .int .i64 6, .int .i64 1, .int .i64 1, .int .i64 6, .int .i64 0, .int .i64 2, .int .i64 0, .int .i64 1, .int .i64 0, .int .i64 1, .int .i64 0, .int .i64 0] :: Ass.box 113 g92 [.int .i64 0, .int .i64 2, .int .i64 1] :: os) hS 1 rfl 113 0 (.agg #[.int .i64 0, .int .i64 2, .int .i64 1]) [.int .i64 0, .int .i64 2, .int .i64 1] (by kernel_rfl) (by kernel_rfl) (by kernel_rfl) (by kernel_rfl) (by kernel_rfl) (by kernel_rfl) rfl rfl ?_)
       intro w hS
       refine EL.done (by kernel_rfl) ?_
       refine EQ.code ?_
       refine EW.ret (by kernel_rfl) ?_
       obtain rfl := Option.some.inj H
       exact EQ.leaveC hS 1 rfl 2 113 0 3 (.agg #[.int .i64 0, .int .i64 2, .int .i64 1]) (by kernel_rfl) (by kernel_rfl) (by kernel_rfl) ⟨_, rfl, rfl, (hS.re [] [0, 0] rfl (sub_self))⟩
      ·rw [if_neg a7] at H
       by_cases a8 : a44 = 5
       ·rw [if_pos a8] at H
        refine EL.keep [2, 3, 35] [(2, .pointer (some ⟨g92, 0, none⟩)), (3, .pointer (some ⟨a0, 0, none⟩)), (35, .int .i64 a44)] (by kernel_rfl) ?_
        refine EL.as' [(2, .pointer (some ⟨g92, 0, none⟩)), (3, .pointer (some ⟨a0, 0, none⟩)), (35, .int .i64 5)] (by simp only [a8]) ?_
        refine EL.quick 1 [2, 36] [(2, .pointer (some ⟨g92, 0, none⟩)), (36, .pointer (some ⟨a0, 15, none⟩))] (by kernel_rfl) ?_
        refine EL.of (EO.Y (YO.loadBox hS 0 rfl 113 15 3 (.agg #[.int .i64 0, .int .i64 2, .int .i64 1]) 37 (by kernel_rfl) (by kernel_rfl) (by kernel_rfl) (by kernel_rfl)) ?_)
        refine EL.of (EO.storeBox (os' := Ass.box 119 a0 [.int .i64 0, .int .i64 0, .int .i64 0, .int .i64 1, .int .i64 0, .int .i64 1, .int .i64 0, .int .i64 1, .int .i64 0, .int .i64 0, .int .i64 1, .int .i64 2, .int .i64 0, .int .i64 2, .int .i64 1, .int .i64 0, .int .i64 2, .int .i64 1, .int .i64 0, .int .i64 2, .int .i64 1, .int .i64 0, .int .i64 2, .int .i64 1, .int .i64 0, .int .i64 2, .int .i64 1, .int .i64 0, .int .i64 2, .int .i64 1, .int .i64 2, .int .i64 0, .int .i64 0, .int .i64 2, .int .i64 1, .int .i64 0, .int .i64 3, .int .i64 0, .int .i64 1, .int .i64 3, .int .i64 1, .int .i64 0, .int .i64 0, .int .i64 0, .int .i64 1, .int .i64 4, .int .i64 0, .int .i64 0, .int .i64 4, .int .i64 1, .int .i64 1, .int .i64 4, .int .i64 1, .int .i64 1, .int .i64 0, .int .i64 1, .int .i64 1, .int .i64 0, .int .i64 2, .int .i64 0, .int .i64 5, .int .i64 2, .int .i64 1, .int .i64 0, .int .i64 1, .int .i64 1, .int .i64 4, .int .i64 1, .int .i64 0, .int .i64 6, .int .i64 1, .int .i64 1, .int .i64 6, .int .i64 0, .int .i64 2, .int .i64 0, .int .i64 1, .int .i64 0, .int .i64 1, .int .i64 0, .int .i64 0] :: Ass.box 113 g92 [.int .i64 0, .int .i64 2, .int .i64 1] :: os) hS 1 rfl 113 0 (.agg #[.int .i64 0, .int .i64 2, .int .i64 1]) [.int .i64 0, .int .i64 2, .int .i64 1] (by kernel_rfl) (by kernel_rfl) (by kernel_rfl) (by kernel_rfl) (by kernel_rfl) (by kernel_rfl) rfl rfl ?_)
        intro w hS
        refine EL.done (by kernel_rfl) ?_
        refine EQ.code ?_
        refine EW.ret (by kernel_rfl) ?_
        obtain rfl := Option.some.inj H
        exact EQ.leaveC hS 1 rfl 2 113 0 3 (.agg #[.int .i64 0, .int .i64 2, .int .i64 1]) (by kernel_rfl) (by kernel_rfl) (by kernel_rfl) ⟨_, rfl, rfl, (hS.re [] [0, 0] rfl (sub_self))⟩
       ·rw [if_neg a8] at H
        by_cases a9 : a44 = 6
        ·rw [if_pos a9] at H
         refine EL.keep [2, 3, 35] [(2, .pointer (some ⟨g92, 0, none⟩)), (3, .pointer (some ⟨a0, 0, none⟩)), (35, .int .i64 a44)] (by kernel_rfl) ?_
         refine EL.as' [(2, .pointer (some ⟨g92, 0, none⟩)), (3, .pointer (some ⟨a0, 0, none⟩)), (35, .int .i64 6)] (by simp only [a9]) ?_
         refine EL.quick 1 [2, 36] [(2, .pointer (some ⟨g92, 0, none⟩)), (36, .pointer (some ⟨a0, 18, none⟩))] (by kernel_rfl) ?_
         refine EL.of (EO.Y (YO.loadBox hS 0 rfl 113 18 3 (.agg #[.int .i64 0, .int .i64 2, .int .i64 1]) 37 (by kernel_rfl) (by kernel_rfl) (by kernel_rfl) (by kernel_rfl)) ?_)
         refine EL.of (EO.storeBox (os' := Ass.box 119 a0 [.int .i64 0, .int .i64 0, .int .i64 0, .int .i64 1, .int .i64 0, .int .i64 1, .int .i64 0, .int .i64 1, .int .i64 0, .int .i64 0, .int .i64 1, .int .i64 2, .int .i64 0, .int .i64 2, .int .i64 1, .int .i64 0, .int .i64 2, .int .i64 1, .int .i64 0, .int .i64 2, .int .i64 1, .int .i64 0, .int .i64 2, .int .i64 1, .int .i64 0, .int .i64 2, .int .i64 1, .int .i64 0, .int .i64 2, .int .i64 1, .int .i64 2, .int .i64 0, .int .i64 0, .int .i64 2, .int .i64 1, .int .i64 0, .int .i64 3, .int .i64 0, .int .i64 1, .int .i64 3, .int .i64 1, .int .i64 0, .int .i64 0, .int .i64 0, .int .i64 1, .int .i64 4, .int .i64 0, .int .i64 0, .int .i64 4, .int .i64 1, .int .i64 1, .int .i64 4, .int .i64 1, .int .i64 1, .int .i64 0, .int .i64 1, .int .i64 1, .int .i64 0, .int .i64 2, .int .i64 0, .int .i64 5, .int .i64 2, .int .i64 1, .int .i64 0, .int .i64 1, .int .i64 1, .int .i64 4, .int .i64 1, .int .i64 0, .int .i64 6, .int .i64 1, .int .i64 1, .int .i64 6, .int .i64 0, .int .i64 2, .int .i64 0, .int .i64 1, .int .i64 0, .int .i64 1, .int .i64 0, .int .i64 0] :: Ass.box 113 g92 [.int .i64 0, .int .i64 2, .int .i64 1] :: os) hS 1 rfl 113 0 (.agg #[.int .i64 0, .int .i64 2, .int .i64 1]) [.int .i64 0, .int .i64 2, .int .i64 1] (by kernel_rfl) (by kernel_rfl) (by kernel_rfl) (by kernel_rfl) (by kernel_rfl) (by kernel_rfl) rfl rfl ?_)
         intro w hS
         refine EL.done (by kernel_rfl) ?_
         refine EQ.code ?_
         refine EW.ret (by kernel_rfl) ?_
         obtain rfl := Option.some.inj H
         exact EQ.leaveC hS 1 rfl 2 113 0 3 (.agg #[.int .i64 0, .int .i64 2, .int .i64 1]) (by kernel_rfl) (by kernel_rfl) (by kernel_rfl) ⟨_, rfl, rfl, (hS.re [] [0, 0] rfl (sub_self))⟩
        ·rw [if_neg a9] at H
         by_cases b0 : a44 = 7
         ·rw [if_pos b0] at H
          refine EL.keep [2, 3, 35] [(2, .pointer (some ⟨g92, 0, none⟩)), (3, .pointer (some ⟨a0, 0, none⟩)), (35, .int .i64 a44)] (by kernel_rfl) ?_
          refine EL.as' [(2, .pointer (some ⟨g92, 0, none⟩)), (3, .pointer (some ⟨a0, 0, none⟩)), (35, .int .i64 7)] (by simp only [b0]) ?_
          refine EL.quick 1 [2, 36] [(2, .pointer (some ⟨g92, 0, none⟩)), (36, .pointer (some ⟨a0, 21, none⟩))] (by kernel_rfl) ?_
          refine EL.of (EO.Y (YO.loadBox hS 0 rfl 113 21 3 (.agg #[.int .i64 0, .int .i64 2, .int .i64 1]) 37 (by kernel_rfl) (by kernel_rfl) (by kernel_rfl) (by kernel_rfl)) ?_)
          refine EL.of (EO.storeBox (os' := Ass.box 119 a0 [.int .i64 0, .int .i64 0, .int .i64 0, .int .i64 1, .int .i64 0, .int .i64 1, .int .i64 0, .int .i64 1, .int .i64 0, .int .i64 0, .int .i64 1, .int .i64 2, .int .i64 0, .int .i64 2, .int .i64 1, .int .i64 0, .int .i64 2, .int .i64 1, .int .i64 0, .int .i64 2, .int .i64 1, .int .i64 0, .int .i64 2, .int .i64 1, .int .i64 0, .int .i64 2, .int .i64 1, .int .i64 0, .int .i64 2, .int .i64 1, .int .i64 2, .int .i64 0, .int .i64 0, .int .i64 2, .int .i64 1, .int .i64 0, .int .i64 3, .int .i64 0, .int .i64 1, .int .i64 3, .int .i64 1, .int .i64 0, .int .i64 0, .int .i64 0, .int .i64 1, .int .i64 4, .int .i64 0, .int .i64 0, .int .i64 4, .int .i64 1, .int .i64 1, .int .i64 4, .int .i64 1, .int .i64 1, .int .i64 0, .int .i64 1, .int .i64 1, .int .i64 0, .int .i64 2, .int .i64 0, .int .i64 5, .int .i64 2, .int .i64 1, .int .i64 0, .int .i64 1, .int .i64 1, .int .i64 4, .int .i64 1, .int .i64 0, .int .i64 6, .int .i64 1, .int .i64 1, .int .i64 6, .int .i64 0, .int .i64 2, .int .i64 0, .int .i64 1, .int .i64 0, .int .i64 1, .int .i64 0, .int .i64 0] :: Ass.box 113 g92 [.int .i64 0, .int .i64 2, .int .i64 1] :: os) hS 1 rfl 113 0 (.agg #[.int .i64 0, .int .i64 2, .int .i64 1]) [.int .i64 0, .int .i64 2, .int .i64 1] (by kernel_rfl) (by kernel_rfl) (by kernel_rfl) (by kernel_rfl) (by kernel_rfl) (by kernel_rfl) rfl rfl ?_)
          intro w hS
          refine EL.done (by kernel_rfl) ?_
          refine EQ.code ?_
          refine EW.ret (by kernel_rfl) ?_
          obtain rfl := Option.some.inj H
          exact EQ.leaveC hS 1 rfl 2 113 0 3 (.agg #[.int .i64 0, .int .i64 2, .int .i64 1]) (by kernel_rfl) (by kernel_rfl) (by kernel_rfl) ⟨_, rfl, rfl, (hS.re [] [0, 0] rfl (sub_self))⟩
         ·rw [if_neg b0] at H
          by_cases b2 : a44 = 8
          ·rw [if_pos b2] at H
           refine EL.keep [2, 3, 35] [(2, .pointer (some ⟨g92, 0, none⟩)), (3, .pointer (some ⟨a0, 0, none⟩)), (35, .int .i64 a44)] (by kernel_rfl) ?_
           refine EL.as' [(2, .pointer (some ⟨g92, 0, none⟩)), (3, .pointer (some ⟨a0, 0, none⟩)), (35, .int .i64 8)] (by simp only [b2]) ?_
           refine EL.quick 1 [2, 36] [(2, .pointer (some ⟨g92, 0, none⟩)), (36, .pointer (some ⟨a0, 24, none⟩))] (by kernel_rfl) ?_
           refine EL.of (EO.Y (YO.loadBox hS 0 rfl 113 24 3 (.agg #[.int .i64 0, .int .i64 2, .int .i64 1]) 37 (by kernel_rfl) (by kernel_rfl) (by kernel_rfl) (by kernel_rfl)) ?_)
           refine EL.of (EO.storeBox (os' := Ass.box 119 a0 [.int .i64 0, .int .i64 0, .int .i64 0, .int .i64 1, .int .i64 0, .int .i64 1, .int .i64 0, .int .i64 1, .int .i64 0, .int .i64 0, .int .i64 1, .int .i64 2, .int .i64 0, .int .i64 2, .int .i64 1, .int .i64 0, .int .i64 2, .int .i64 1, .int .i64 0, .int .i64 2, .int .i64 1, .int .i64 0, .int .i64 2, .int .i64 1, .int .i64 0, .int .i64 2, .int .i64 1, .int .i64 0, .int .i64 2, .int .i64 1, .int .i64 2, .int .i64 0, .int .i64 0, .int .i64 2, .int .i64 1, .int .i64 0, .int .i64 3, .int .i64 0, .int .i64 1, .int .i64 3, .int .i64 1, .int .i64 0, .int .i64 0, .int .i64 0, .int .i64 1, .int .i64 4, .int .i64 0, .int .i64 0, .int .i64 4, .int .i64 1, .int .i64 1, .int .i64 4, .int .i64 1, .int .i64 1, .int .i64 0, .int .i64 1, .int .i64 1, .int .i64 0, .int .i64 2, .int .i64 0, .int .i64 5, .int .i64 2, .int .i64 1, .int .i64 0, .int .i64 1, .int .i64 1, .int .i64 4, .int .i64 1, .int .i64 0, .int .i64 6, .int .i64 1, .int .i64 1, .int .i64 6, .int .i64 0, .int .i64 2, .int .i64 0, .int .i64 1, .int .i64 0, .int .i64 1, .int .i64 0, .int .i64 0] :: Ass.box 113 g92 [.int .i64 0, .int .i64 2, .int .i64 1] :: os) hS 1 rfl 113 0 (.agg #[.int .i64 0, .int .i64 2, .int .i64 1]) [.int .i64 0, .int .i64 2, .int .i64 1] (by kernel_rfl) (by kernel_rfl) (by kernel_rfl) (by kernel_rfl) (by kernel_rfl) (by kernel_rfl) rfl rfl ?_)
           intro w hS
           refine EL.done (by kernel_rfl) ?_
           refine EQ.code ?_
           refine EW.ret (by kernel_rfl) ?_
           obtain rfl := Option.some.inj H
           exact EQ.leaveC hS 1 rfl 2 113 0 3 (.agg #[.int .i64 0, .int .i64 2, .int .i64 1]) (by kernel_rfl) (by kernel_rfl) (by kernel_rfl) ⟨_, rfl, rfl, (hS.re [] [0, 0] rfl (sub_self))⟩
          ·rw [if_neg b2] at H
           by_cases b3 : a44 = 9
           ·rw [if_pos b3] at H
            refine EL.keep [2, 3, 35] [(2, .pointer (some ⟨g92, 0, none⟩)), (3, .pointer (some ⟨a0, 0, none⟩)), (35, .int .i64 a44)] (by kernel_rfl) ?_
            refine EL.as' [(2, .pointer (some ⟨g92, 0, none⟩)), (3, .pointer (some ⟨a0, 0, none⟩)), (35, .int .i64 9)] (by simp only [b3]) ?_
            refine EL.quick 1 [2, 36] [(2, .pointer (some ⟨g92, 0, none⟩)), (36, .pointer (some ⟨a0, 27, none⟩))] (by kernel_rfl) ?_
            refine EL.of (EO.Y (YO.loadBox hS 0 rfl 113 27 3 (.agg #[.int .i64 0, .int .i64 2, .int .i64 1]) 37 (by kernel_rfl) (by kernel_rfl) (by kernel_rfl) (by kernel_rfl)) ?_)
            refine EL.of (EO.storeBox (os' := Ass.box 119 a0 [.int .i64 0, .int .i64 0, .int .i64 0, .int .i64 1, .int .i64 0, .int .i64 1, .int .i64 0, .int .i64 1, .int .i64 0, .int .i64 0, .int .i64 1, .int .i64 2, .int .i64 0, .int .i64 2, .int .i64 1, .int .i64 0, .int .i64 2, .int .i64 1, .int .i64 0, .int .i64 2, .int .i64 1, .int .i64 0, .int .i64 2, .int .i64 1, .int .i64 0, .int .i64 2, .int .i64 1, .int .i64 0, .int .i64 2, .int .i64 1, .int .i64 2, .int .i64 0, .int .i64 0, .int .i64 2, .int .i64 1, .int .i64 0, .int .i64 3, .int .i64 0, .int .i64 1, .int .i64 3, .int .i64 1, .int .i64 0, .int .i64 0, .int .i64 0, .int .i64 1, .int .i64 4, .int .i64 0, .int .i64 0, .int .i64 4, .int .i64 1, .int .i64 1, .int .i64 4, .int .i64 1, .int .i64 1, .int .i64 0, .int .i64 1, .int .i64 1, .int .i64 0, .int .i64 2, .int .i64 0, .int .i64 5, .int .i64 2, .int .i64 1, .int .i64 0, .int .i64 1, .int .i64 1, .int .i64 4, .int .i64 1, .int .i64 0, .int .i64 6, .int .i64 1, .int .i64 1, .int .i64 6, .int .i64 0, .int .i64 2, .int .i64 0, .int .i64 1, .int .i64 0, .int .i64 1, .int .i64 0, .int .i64 0] :: Ass.box 113 g92 [.int .i64 0, .int .i64 2, .int .i64 1] :: os) hS 1 rfl 113 0 (.agg #[.int .i64 0, .int .i64 2, .int .i64 1]) [.int .i64 0, .int .i64 2, .int .i64 1] (by kernel_rfl) (by kernel_rfl) (by kernel_rfl) (by kernel_rfl) (by kernel_rfl) (by kernel_rfl) rfl rfl ?_)
            intro w hS
            refine EL.done (by kernel_rfl) ?_
            refine EQ.code ?_
            refine EW.ret (by kernel_rfl) ?_
            obtain rfl := Option.some.inj H
            exact EQ.leaveC hS 1 rfl 2 113 0 3 (.agg #[.int .i64 0, .int .i64 2, .int .i64 1]) (by kernel_rfl) (by kernel_rfl) (by kernel_rfl) ⟨_, rfl, rfl, (hS.re [] [0, 0] rfl (sub_self))⟩
           ·rw [if_neg b3] at H
            by_cases b4 : a44 = 10
            ·rw [if_pos b4] at H
             refine EL.keep [2, 3, 35] [(2, .pointer (some ⟨g92, 0, none⟩)), (3, .pointer (some ⟨a0, 0, none⟩)), (35, .int .i64 a44)] (by kernel_rfl) ?_
             refine EL.as' [(2, .pointer (some ⟨g92, 0, none⟩)), (3, .pointer (some ⟨a0, 0, none⟩)), (35, .int .i64 10)] (by simp only [b4]) ?_
             refine EL.quick 1 [2, 36] [(2, .pointer (some ⟨g92, 0, none⟩)), (36, .pointer (some ⟨a0, 30, none⟩))] (by kernel_rfl) ?_
             refine EL.of (EO.Y (YO.loadBox hS 0 rfl 113 30 3 (.agg #[.int .i64 2, .int .i64 0, .int .i64 0]) 37 (by kernel_rfl) (by kernel_rfl) (by kernel_rfl) (by kernel_rfl)) ?_)
             refine EL.of (EO.storeBox (os' := Ass.box 119 a0 [.int .i64 0, .int .i64 0, .int .i64 0, .int .i64 1, .int .i64 0, .int .i64 1, .int .i64 0, .int .i64 1, .int .i64 0, .int .i64 0, .int .i64 1, .int .i64 2, .int .i64 0, .int .i64 2, .int .i64 1, .int .i64 0, .int .i64 2, .int .i64 1, .int .i64 0, .int .i64 2, .int .i64 1, .int .i64 0, .int .i64 2, .int .i64 1, .int .i64 0, .int .i64 2, .int .i64 1, .int .i64 0, .int .i64 2, .int .i64 1, .int .i64 2, .int .i64 0, .int .i64 0, .int .i64 2, .int .i64 1, .int .i64 0, .int .i64 3, .int .i64 0, .int .i64 1, .int .i64 3, .int .i64 1, .int .i64 0, .int .i64 0, .int .i64 0, .int .i64 1, .int .i64 4, .int .i64 0, .int .i64 0, .int .i64 4, .int .i64 1, .int .i64 1, .int .i64 4, .int .i64 1, .int .i64 1, .int .i64 0, .int .i64 1, .int .i64 1, .int .i64 0, .int .i64 2, .int .i64 0, .int .i64 5, .int .i64 2, .int .i64 1, .int .i64 0, .int .i64 1, .int .i64 1, .int .i64 4, .int .i64 1, .int .i64 0, .int .i64 6, .int .i64 1, .int .i64 1, .int .i64 6, .int .i64 0, .int .i64 2, .int .i64 0, .int .i64 1, .int .i64 0, .int .i64 1, .int .i64 0, .int .i64 0] :: Ass.box 113 g92 [.int .i64 2, .int .i64 0, .int .i64 0] :: os) hS 1 rfl 113 0 (.agg #[.int .i64 2, .int .i64 0, .int .i64 0]) [.int .i64 2, .int .i64 0, .int .i64 0] (by kernel_rfl) (by kernel_rfl) (by kernel_rfl) (by kernel_rfl) (by kernel_rfl) (by kernel_rfl) rfl rfl ?_)
             intro w hS
             refine EL.done (by kernel_rfl) ?_
             refine EQ.code ?_
             refine EW.ret (by kernel_rfl) ?_
             obtain rfl := Option.some.inj H
             exact EQ.leaveC hS 1 rfl 2 113 0 3 (.agg #[.int .i64 2, .int .i64 0, .int .i64 0]) (by kernel_rfl) (by kernel_rfl) (by kernel_rfl) ⟨_, rfl, rfl, (hS.re [] [0, 0] rfl (sub_self))⟩
            ·rw [if_neg b4] at H
             by_cases b5 : a44 = 11
             ·rw [if_pos b5] at H
              refine EL.keep [2, 3, 35] [(2, .pointer (some ⟨g92, 0, none⟩)), (3, .pointer (some ⟨a0, 0, none⟩)), (35, .int .i64 a44)] (by kernel_rfl) ?_
              refine EL.as' [(2, .pointer (some ⟨g92, 0, none⟩)), (3, .pointer (some ⟨a0, 0, none⟩)), (35, .int .i64 11)] (by simp only [b5]) ?_
              refine EL.quick 1 [2, 36] [(2, .pointer (some ⟨g92, 0, none⟩)), (36, .pointer (some ⟨a0, 33, none⟩))] (by kernel_rfl) ?_
              refine EL.of (EO.Y (YO.loadBox hS 0 rfl 113 33 3 (.agg #[.int .i64 2, .int .i64 1, .int .i64 0]) 37 (by kernel_rfl) (by kernel_rfl) (by kernel_rfl) (by kernel_rfl)) ?_)
              refine EL.of (EO.storeBox (os' := Ass.box 119 a0 [.int .i64 0, .int .i64 0, .int .i64 0, .int .i64 1, .int .i64 0, .int .i64 1, .int .i64 0, .int .i64 1, .int .i64 0, .int .i64 0, .int .i64 1, .int .i64 2, .int .i64 0, .int .i64 2, .int .i64 1, .int .i64 0, .int .i64 2, .int .i64 1, .int .i64 0, .int .i64 2, .int .i64 1, .int .i64 0, .int .i64 2, .int .i64 1, .int .i64 0, .int .i64 2, .int .i64 1, .int .i64 0, .int .i64 2, .int .i64 1, .int .i64 2, .int .i64 0, .int .i64 0, .int .i64 2, .int .i64 1, .int .i64 0, .int .i64 3, .int .i64 0, .int .i64 1, .int .i64 3, .int .i64 1, .int .i64 0, .int .i64 0, .int .i64 0, .int .i64 1, .int .i64 4, .int .i64 0, .int .i64 0, .int .i64 4, .int .i64 1, .int .i64 1, .int .i64 4, .int .i64 1, .int .i64 1, .int .i64 0, .int .i64 1, .int .i64 1, .int .i64 0, .int .i64 2, .int .i64 0, .int .i64 5, .int .i64 2, .int .i64 1, .int .i64 0, .int .i64 1, .int .i64 1, .int .i64 4, .int .i64 1, .int .i64 0, .int .i64 6, .int .i64 1, .int .i64 1, .int .i64 6, .int .i64 0, .int .i64 2, .int .i64 0, .int .i64 1, .int .i64 0, .int .i64 1, .int .i64 0, .int .i64 0] :: Ass.box 113 g92 [.int .i64 2, .int .i64 1, .int .i64 0] :: os) hS 1 rfl 113 0 (.agg #[.int .i64 2, .int .i64 1, .int .i64 0]) [.int .i64 2, .int .i64 1, .int .i64 0] (by kernel_rfl) (by kernel_rfl) (by kernel_rfl) (by kernel_rfl) (by kernel_rfl) (by kernel_rfl) rfl rfl ?_)
              intro w hS
              refine EL.done (by kernel_rfl) ?_
              refine EQ.code ?_
              refine EW.ret (by kernel_rfl) ?_
              obtain rfl := Option.some.inj H
              exact EQ.leaveC hS 1 rfl 2 113 0 3 (.agg #[.int .i64 2, .int .i64 1, .int .i64 0]) (by kernel_rfl) (by kernel_rfl) (by kernel_rfl) ⟨_, rfl, rfl, (hS.re [] [0, 0] rfl (sub_self))⟩
             ·rw [if_neg b5] at H
              by_cases b6 : a44 = 12
              ·rw [if_pos b6] at H
               refine EL.keep [2, 3, 35] [(2, .pointer (some ⟨g92, 0, none⟩)), (3, .pointer (some ⟨a0, 0, none⟩)), (35, .int .i64 a44)] (by kernel_rfl) ?_
               refine EL.as' [(2, .pointer (some ⟨g92, 0, none⟩)), (3, .pointer (some ⟨a0, 0, none⟩)), (35, .int .i64 12)] (by simp only [b6]) ?_
               refine EL.quick 1 [2, 36] [(2, .pointer (some ⟨g92, 0, none⟩)), (36, .pointer (some ⟨a0, 36, none⟩))] (by kernel_rfl) ?_
               refine EL.of (EO.Y (YO.loadBox hS 0 rfl 113 36 3 (.agg #[.int .i64 3, .int .i64 0, .int .i64 1]) 37 (by kernel_rfl) (by kernel_rfl) (by kernel_rfl) (by kernel_rfl)) ?_)
               refine EL.of (EO.storeBox (os' := Ass.box 119 a0 [.int .i64 0, .int .i64 0, .int .i64 0, .int .i64 1, .int .i64 0, .int .i64 1, .int .i64 0, .int .i64 1, .int .i64 0, .int .i64 0, .int .i64 1, .int .i64 2, .int .i64 0, .int .i64 2, .int .i64 1, .int .i64 0, .int .i64 2, .int .i64 1, .int .i64 0, .int .i64 2, .int .i64 1, .int .i64 0, .int .i64 2, .int .i64 1, .int .i64 0, .int .i64 2, .int .i64 1, .int .i64 0, .int .i64 2, .int .i64 1, .int .i64 2, .int .i64 0, .int .i64 0, .int .i64 2, .int .i64 1, .int .i64 0, .int .i64 3, .int .i64 0, .int .i64 1, .int .i64 3, .int .i64 1, .int .i64 0, .int .i64 0, .int .i64 0, .int .i64 1, .int .i64 4, .int .i64 0, .int .i64 0, .int .i64 4, .int .i64 1, .int .i64 1, .int .i64 4, .int .i64 1, .int .i64 1, .int .i64 0, .int .i64 1, .int .i64 1, .int .i64 0, .int .i64 2, .int .i64 0, .int .i64 5, .int .i64 2, .int .i64 1, .int .i64 0, .int .i64 1, .int .i64 1, .int .i64 4, .int .i64 1, .int .i64 0, .int .i64 6, .int .i64 1, .int .i64 1, .int .i64 6, .int .i64 0, .int .i64 2, .int .i64 0, .int .i64 1, .int .i64 0, .int .i64 1, .int .i64 0, .int .i64 0] :: Ass.box 113 g92 [.int .i64 3, .int .i64 0, .int .i64 1] :: os) hS 1 rfl 113 0 (.agg #[.int .i64 3, .int .i64 0, .int .i64 1]) [.int .i64 3, .int .i64 0, .int .i64 1] (by kernel_rfl) (by kernel_rfl) (by kernel_rfl) (by kernel_rfl) (by kernel_rfl) (by kernel_rfl) rfl rfl ?_)
               intro w hS
               refine EL.done (by kernel_rfl) ?_
               refine EQ.code ?_
               refine EW.ret (by kernel_rfl) ?_
               obtain rfl := Option.some.inj H
               exact EQ.leaveC hS 1 rfl 2 113 0 3 (.agg #[.int .i64 3, .int .i64 0, .int .i64 1]) (by kernel_rfl) (by kernel_rfl) (by kernel_rfl) ⟨_, rfl, rfl, (hS.re [] [0, 0] rfl (sub_self))⟩
              ·rw [if_neg b6] at H
               by_cases b7 : a44 = 13
               ·rw [if_pos b7] at H
                refine EL.keep [2, 3, 35] [(2, .pointer (some ⟨g92, 0, none⟩)), (3, .pointer (some ⟨a0, 0, none⟩)), (35, .int .i64 a44)] (by kernel_rfl) ?_
                refine EL.as' [(2, .pointer (some ⟨g92, 0, none⟩)), (3, .pointer (some ⟨a0, 0, none⟩)), (35, .int .i64 13)] (by simp only [b7]) ?_
                refine EL.quick 1 [2, 36] [(2, .pointer (some ⟨g92, 0, none⟩)), (36, .pointer (some ⟨a0, 39, none⟩))] (by kernel_rfl) ?_
                refine EL.of (EO.Y (YO.loadBox hS 0 rfl 113 39 3 (.agg #[.int .i64 3, .int .i64 1, .int .i64 0]) 37 (by kernel_rfl) (by kernel_rfl) (by kernel_rfl) (by kernel_rfl)) ?_)
                refine EL.of (EO.storeBox (os' := Ass.box 119 a0 [.int .i64 0, .int .i64 0, .int .i64 0, .int .i64 1, .int .i64 0, .int .i64 1, .int .i64 0, .int .i64 1, .int .i64 0, .int .i64 0, .int .i64 1, .int .i64 2, .int .i64 0, .int .i64 2, .int .i64 1, .int .i64 0, .int .i64 2, .int .i64 1, .int .i64 0, .int .i64 2, .int .i64 1, .int .i64 0, .int .i64 2, .int .i64 1, .int .i64 0, .int .i64 2, .int .i64 1, .int .i64 0, .int .i64 2, .int .i64 1, .int .i64 2, .int .i64 0, .int .i64 0, .int .i64 2, .int .i64 1, .int .i64 0, .int .i64 3, .int .i64 0, .int .i64 1, .int .i64 3, .int .i64 1, .int .i64 0, .int .i64 0, .int .i64 0, .int .i64 1, .int .i64 4, .int .i64 0, .int .i64 0, .int .i64 4, .int .i64 1, .int .i64 1, .int .i64 4, .int .i64 1, .int .i64 1, .int .i64 0, .int .i64 1, .int .i64 1, .int .i64 0, .int .i64 2, .int .i64 0, .int .i64 5, .int .i64 2, .int .i64 1, .int .i64 0, .int .i64 1, .int .i64 1, .int .i64 4, .int .i64 1, .int .i64 0, .int .i64 6, .int .i64 1, .int .i64 1, .int .i64 6, .int .i64 0, .int .i64 2, .int .i64 0, .int .i64 1, .int .i64 0, .int .i64 1, .int .i64 0, .int .i64 0] :: Ass.box 113 g92 [.int .i64 3, .int .i64 1, .int .i64 0] :: os) hS 1 rfl 113 0 (.agg #[.int .i64 3, .int .i64 1, .int .i64 0]) [.int .i64 3, .int .i64 1, .int .i64 0] (by kernel_rfl) (by kernel_rfl) (by kernel_rfl) (by kernel_rfl) (by kernel_rfl) (by kernel_rfl) rfl rfl ?_)
                intro w hS
                refine EL.done (by kernel_rfl) ?_
                refine EQ.code ?_
                refine EW.ret (by kernel_rfl) ?_
                obtain rfl := Option.some.inj H
                exact EQ.leaveC hS 1 rfl 2 113 0 3 (.agg #[.int .i64 3, .int .i64 1, .int .i64 0]) (by kernel_rfl) (by kernel_rfl) (by kernel_rfl) ⟨_, rfl, rfl, (hS.re [] [0, 0] rfl (sub_self))⟩
               ·rw [if_neg b7] at H
                by_cases b8 : a44 = 14
                ·rw [if_pos b8] at H
                 refine EL.keep [2, 3, 35] [(2, .pointer (some ⟨g92, 0, none⟩)), (3, .pointer (some ⟨a0, 0, none⟩)), (35, .int .i64 a44)] (by kernel_rfl) ?_
                 refine EL.as' [(2, .pointer (some ⟨g92, 0, none⟩)), (3, .pointer (some ⟨a0, 0, none⟩)), (35, .int .i64 14)] (by simp only [b8]) ?_
                 refine EL.quick 1 [2, 36] [(2, .pointer (some ⟨g92, 0, none⟩)), (36, .pointer (some ⟨a0, 42, none⟩))] (by kernel_rfl) ?_
                 refine EL.of (EO.Y (YO.loadBox hS 0 rfl 113 42 3 (.agg #[.int .i64 0, .int .i64 0, .int .i64 1]) 37 (by kernel_rfl) (by kernel_rfl) (by kernel_rfl) (by kernel_rfl)) ?_)
                 refine EL.of (EO.storeBox (os' := Ass.box 119 a0 [.int .i64 0, .int .i64 0, .int .i64 0, .int .i64 1, .int .i64 0, .int .i64 1, .int .i64 0, .int .i64 1, .int .i64 0, .int .i64 0, .int .i64 1, .int .i64 2, .int .i64 0, .int .i64 2, .int .i64 1, .int .i64 0, .int .i64 2, .int .i64 1, .int .i64 0, .int .i64 2, .int .i64 1, .int .i64 0, .int .i64 2, .int .i64 1, .int .i64 0, .int .i64 2, .int .i64 1, .int .i64 0, .int .i64 2, .int .i64 1, .int .i64 2, .int .i64 0, .int .i64 0, .int .i64 2, .int .i64 1, .int .i64 0, .int .i64 3, .int .i64 0, .int .i64 1, .int .i64 3, .int .i64 1, .int .i64 0, .int .i64 0, .int .i64 0, .int .i64 1, .int .i64 4, .int .i64 0, .int .i64 0, .int .i64 4, .int .i64 1, .int .i64 1, .int .i64 4, .int .i64 1, .int .i64 1, .int .i64 0, .int .i64 1, .int .i64 1, .int .i64 0, .int .i64 2, .int .i64 0, .int .i64 5, .int .i64 2, .int .i64 1, .int .i64 0, .int .i64 1, .int .i64 1, .int .i64 4, .int .i64 1, .int .i64 0, .int .i64 6, .int .i64 1, .int .i64 1, .int .i64 6, .int .i64 0, .int .i64 2, .int .i64 0, .int .i64 1, .int .i64 0, .int .i64 1, .int .i64 0, .int .i64 0] :: Ass.box 113 g92 [.int .i64 0, .int .i64 0, .int .i64 1] :: os) hS 1 rfl 113 0 (.agg #[.int .i64 0, .int .i64 0, .int .i64 1]) [.int .i64 0, .int .i64 0, .int .i64 1] (by kernel_rfl) (by kernel_rfl) (by kernel_rfl) (by kernel_rfl) (by kernel_rfl) (by kernel_rfl) rfl rfl ?_)
                 intro w hS
                 refine EL.done (by kernel_rfl) ?_
                 refine EQ.code ?_
                 refine EW.ret (by kernel_rfl) ?_
                 obtain rfl := Option.some.inj H
                 exact EQ.leaveC hS 1 rfl 2 113 0 3 (.agg #[.int .i64 0, .int .i64 0, .int .i64 1]) (by kernel_rfl) (by kernel_rfl) (by kernel_rfl) ⟨_, rfl, rfl, (hS.re [] [0, 0] rfl (sub_self))⟩
                ·rw [if_neg b8] at H
                 by_cases b9 : a44 = 15
                 ·rw [if_pos b9] at H
                  refine EL.keep [2, 3, 35] [(2, .pointer (some ⟨g92, 0, none⟩)), (3, .pointer (some ⟨a0, 0, none⟩)), (35, .int .i64 a44)] (by kernel_rfl) ?_
                  refine EL.as' [(2, .pointer (some ⟨g92, 0, none⟩)), (3, .pointer (some ⟨a0, 0, none⟩)), (35, .int .i64 15)] (by simp only [b9]) ?_
                  refine EL.quick 1 [2, 36] [(2, .pointer (some ⟨g92, 0, none⟩)), (36, .pointer (some ⟨a0, 45, none⟩))] (by kernel_rfl) ?_
                  refine EL.of (EO.Y (YO.loadBox hS 0 rfl 113 45 3 (.agg #[.int .i64 4, .int .i64 0, .int .i64 0]) 37 (by kernel_rfl) (by kernel_rfl) (by kernel_rfl) (by kernel_rfl)) ?_)
                  refine EL.of (EO.storeBox (os' := Ass.box 119 a0 [.int .i64 0, .int .i64 0, .int .i64 0, .int .i64 1, .int .i64 0, .int .i64 1, .int .i64 0, .int .i64 1, .int .i64 0, .int .i64 0, .int .i64 1, .int .i64 2, .int .i64 0, .int .i64 2, .int .i64 1, .int .i64 0, .int .i64 2, .int .i64 1, .int .i64 0, .int .i64 2, .int .i64 1, .int .i64 0, .int .i64 2, .int .i64 1, .int .i64 0, .int .i64 2, .int .i64 1, .int .i64 0, .int .i64 2, .int .i64 1, .int .i64 2, .int .i64 0, .int .i64 0, .int .i64 2, .int .i64 1, .int .i64 0, .int .i64 3, .int .i64 0, .int .i64 1, .int .i64 3, .int .i64 1, .int .i64 0, .int .i64 0, .int .i64 0, .int .i64 1, .int .i64 4, .int .i64 0, .int .i64 0, .int .i64 4, .int .i64 1, .int .i64 1, .int .i64 4, .int .i64 1, .int .i64 1, .int .i64 0, .int .i64 1, .int .i64 1, .int .i64 0, .int .i64 2, .int .i64 0, .int .i64 5, .int .i64 2, .int .i64 1, .int .i64 0, .int .i64 1, .int .i64 1, .int .i64 4, .int .i64 1, .int .i64 0, .int .i64 6, .int .i64 1, .int .i64 1, .int .i64 6, .int .i64 0, .int .i64 2, .int .i64 0, .int .i64 1, .int .i64 0, .int .i64 1, .int .i64 0, .int .i64 0] :: Ass.box 113 g92 [.int .i64 4, .int .i64 0, .int .i64 0] :: os) hS 1 rfl 113 0 (.agg #[.int .i64 4, .int .i64 0, .int .i64 0]) [.int .i64 4, .int .i64 0, .int .i64 0] (by kernel_rfl) (by kernel_rfl) (by kernel_rfl) (by kernel_rfl) (by kernel_rfl) (by kernel_rfl) rfl rfl ?_)
                  intro w hS
                  refine EL.done (by kernel_rfl) ?_
                  refine EQ.code ?_
                  refine EW.ret (by kernel_rfl) ?_
                  obtain rfl := Option.some.inj H
                  exact EQ.leaveC hS 1 rfl 2 113 0 3 (.agg #[.int .i64 4, .int .i64 0, .int .i64 0]) (by kernel_rfl) (by kernel_rfl) (by kernel_rfl) ⟨_, rfl, rfl, (hS.re [] [0, 0] rfl (sub_self))⟩
                 ·rw [if_neg b9] at H
                  by_cases c0 : a44 = 16
                  ·rw [if_pos c0] at H
                   refine EL.keep [2, 3, 35] [(2, .pointer (some ⟨g92, 0, none⟩)), (3, .pointer (some ⟨a0, 0, none⟩)), (35, .int .i64 a44)] (by kernel_rfl) ?_
                   refine EL.as' [(2, .pointer (some ⟨g92, 0, none⟩)), (3, .pointer (some ⟨a0, 0, none⟩)), (35, .int .i64 16)] (by simp only [c0]) ?_
                   refine EL.quick 1 [2, 36] [(2, .pointer (some ⟨g92, 0, none⟩)), (36, .pointer (some ⟨a0, 48, none⟩))] (by kernel_rfl) ?_
                   refine EL.of (EO.Y (YO.loadBox hS 0 rfl 113 48 3 (.agg #[.int .i64 4, .int .i64 1, .int .i64 1]) 37 (by kernel_rfl) (by kernel_rfl) (by kernel_rfl) (by kernel_rfl)) ?_)
                   refine EL.of (EO.storeBox (os' := Ass.box 119 a0 [.int .i64 0, .int .i64 0, .int .i64 0, .int .i64 1, .int .i64 0, .int .i64 1, .int .i64 0, .int .i64 1, .int .i64 0, .int .i64 0, .int .i64 1, .int .i64 2, .int .i64 0, .int .i64 2, .int .i64 1, .int .i64 0, .int .i64 2, .int .i64 1, .int .i64 0, .int .i64 2, .int .i64 1, .int .i64 0, .int .i64 2, .int .i64 1, .int .i64 0, .int .i64 2, .int .i64 1, .int .i64 0, .int .i64 2, .int .i64 1, .int .i64 2, .int .i64 0, .int .i64 0, .int .i64 2, .int .i64 1, .int .i64 0, .int .i64 3, .int .i64 0, .int .i64 1, .int .i64 3, .int .i64 1, .int .i64 0, .int .i64 0, .int .i64 0, .int .i64 1, .int .i64 4, .int .i64 0, .int .i64 0, .int .i64 4, .int .i64 1, .int .i64 1, .int .i64 4, .int .i64 1, .int .i64 1, .int .i64 0, .int .i64 1, .int .i64 1, .int .i64 0, .int .i64 2, .int .i64 0, .int .i64 5, .int .i64 2, .int .i64 1, .int .i64 0, .int .i64 1, .int .i64 1, .int .i64 4, .int .i64 1, .int .i64 0, .int .i64 6, .int .i64 1, .int .i64 1, .int .i64 6, .int .i64 0, .int .i64 2, .int .i64 0, .int .i64 1, .int .i64 0, .int .i64 1, .int .i64 0, .int .i64 0] :: Ass.box 113 g92 [.int .i64 4, .int .i64 1, .int .i64 1] :: os) hS 1 rfl 113 0 (.agg #[.int .i64 4, .int .i64 1, .int .i64 1]) [.int .i64 4, .int .i64 1, .int .i64 1] (by kernel_rfl) (by kernel_rfl) (by kernel_rfl) (by kernel_rfl) (by kernel_rfl) (by kernel_rfl) rfl rfl ?_)
                   intro w hS
                   refine EL.done (by kernel_rfl) ?_
                   refine EQ.code ?_
                   refine EW.ret (by kernel_rfl) ?_
                   obtain rfl := Option.some.inj H
                   exact EQ.leaveC hS 1 rfl 2 113 0 3 (.agg #[.int .i64 4, .int .i64 1, .int .i64 1]) (by kernel_rfl) (by kernel_rfl) (by kernel_rfl) ⟨_, rfl, rfl, (hS.re [] [0, 0] rfl (sub_self))⟩
                  ·rw [if_neg c0] at H
                   by_cases c1 : a44 = 17
                   ·rw [if_pos c1] at H
                    refine EL.keep [2, 3, 35] [(2, .pointer (some ⟨g92, 0, none⟩)), (3, .pointer (some ⟨a0, 0, none⟩)), (35, .int .i64 a44)] (by kernel_rfl) ?_
                    refine EL.as' [(2, .pointer (some ⟨g92, 0, none⟩)), (3, .pointer (some ⟨a0, 0, none⟩)), (35, .int .i64 17)] (by simp only [c1]) ?_
                    refine EL.quick 1 [2, 36] [(2, .pointer (some ⟨g92, 0, none⟩)), (36, .pointer (some ⟨a0, 51, none⟩))] (by kernel_rfl) ?_
                    refine EL.of (EO.Y (YO.loadBox hS 0 rfl 113 51 3 (.agg #[.int .i64 4, .int .i64 1, .int .i64 1]) 37 (by kernel_rfl) (by kernel_rfl) (by kernel_rfl) (by kernel_rfl)) ?_)
                    refine EL.of (EO.storeBox (os' := Ass.box 119 a0 [.int .i64 0, .int .i64 0, .int .i64 0, .int .i64 1, .int .i64 0, .int .i64 1, .int .i64 0, .int .i64 1, .int .i64 0, .int .i64 0, .int .i64 1, .int .i64 2, .int .i64 0, .int .i64 2, .int .i64 1, .int .i64 0, .int .i64 2, .int .i64 1, .int .i64 0, .int .i64 2, .int .i64 1, .int .i64 0, .int .i64 2, .int .i64 1, .int .i64 0, .int .i64 2, .int .i64 1, .int .i64 0, .int .i64 2, .int .i64 1, .int .i64 2, .int .i64 0, .int .i64 0, .int .i64 2, .int .i64 1, .int .i64 0, .int .i64 3, .int .i64 0, .int .i64 1, .int .i64 3, .int .i64 1, .int .i64 0, .int .i64 0, .int .i64 0, .int .i64 1, .int .i64 4, .int .i64 0, .int .i64 0, .int .i64 4, .int .i64 1, .int .i64 1, .int .i64 4, .int .i64 1, .int .i64 1, .int .i64 0, .int .i64 1, .int .i64 1, .int .i64 0, .int .i64 2, .int .i64 0, .int .i64 5, .int .i64 2, .int .i64 1, .int .i64 0, .int .i64 1, .int .i64 1, .int .i64 4, .int .i64 1, .int .i64 0, .int .i64 6, .int .i64 1, .int .i64 1, .int .i64 6, .int .i64 0, .int .i64 2, .int .i64 0, .int .i64 1, .int .i64 0, .int .i64 1, .int .i64 0, .int .i64 0] :: Ass.box 113 g92 [.int .i64 4, .int .i64 1, .int .i64 1] :: os) hS 1 rfl 113 0 (.agg #[.int .i64 4, .int .i64 1, .int .i64 1]) [.int .i64 4, .int .i64 1, .int .i64 1] (by kernel_rfl) (by kernel_rfl) (by kernel_rfl) (by kernel_rfl) (by kernel_rfl) (by kernel_rfl) rfl rfl ?_)
                    intro w hS
                    refine EL.done (by kernel_rfl) ?_
                    refine EQ.code ?_
                    refine EW.ret (by kernel_rfl) ?_
                    obtain rfl := Option.some.inj H
                    exact EQ.leaveC hS 1 rfl 2 113 0 3 (.agg #[.int .i64 4, .int .i64 1, .int .i64 1]) (by kernel_rfl) (by kernel_rfl) (by kernel_rfl) ⟨_, rfl, rfl, (hS.re [] [0, 0] rfl (sub_self))⟩
                   ·rw [if_neg c1] at H
                    by_cases c2 : a44 = 18
                    ·rw [if_pos c2] at H
                     refine EL.keep [2, 3, 35] [(2, .pointer (some ⟨g92, 0, none⟩)), (3, .pointer (some ⟨a0, 0, none⟩)), (35, .int .i64 a44)] (by kernel_rfl) ?_
                     refine EL.as' [(2, .pointer (some ⟨g92, 0, none⟩)), (3, .pointer (some ⟨a0, 0, none⟩)), (35, .int .i64 18)] (by simp only [c2]) ?_
                     refine EL.quick 1 [2, 36] [(2, .pointer (some ⟨g92, 0, none⟩)), (36, .pointer (some ⟨a0, 54, none⟩))] (by kernel_rfl) ?_
                     refine EL.of (EO.Y (YO.loadBox hS 0 rfl 113 54 3 (.agg #[.int .i64 0, .int .i64 1, .int .i64 1]) 37 (by kernel_rfl) (by kernel_rfl) (by kernel_rfl) (by kernel_rfl)) ?_)
                     refine EL.of (EO.storeBox (os' := Ass.box 119 a0 [.int .i64 0, .int .i64 0, .int .i64 0, .int .i64 1, .int .i64 0, .int .i64 1, .int .i64 0, .int .i64 1, .int .i64 0, .int .i64 0, .int .i64 1, .int .i64 2, .int .i64 0, .int .i64 2, .int .i64 1, .int .i64 0, .int .i64 2, .int .i64 1, .int .i64 0, .int .i64 2, .int .i64 1, .int .i64 0, .int .i64 2, .int .i64 1, .int .i64 0, .int .i64 2, .int .i64 1, .int .i64 0, .int .i64 2, .int .i64 1, .int .i64 2, .int .i64 0, .int .i64 0, .int .i64 2, .int .i64 1, .int .i64 0, .int .i64 3, .int .i64 0, .int .i64 1, .int .i64 3, .int .i64 1, .int .i64 0, .int .i64 0, .int .i64 0, .int .i64 1, .int .i64 4, .int .i64 0, .int .i64 0, .int .i64 4, .int .i64 1, .int .i64 1, .int .i64 4, .int .i64 1, .int .i64 1, .int .i64 0, .int .i64 1, .int .i64 1, .int .i64 0, .int .i64 2, .int .i64 0, .int .i64 5, .int .i64 2, .int .i64 1, .int .i64 0, .int .i64 1, .int .i64 1, .int .i64 4, .int .i64 1, .int .i64 0, .int .i64 6, .int .i64 1, .int .i64 1, .int .i64 6, .int .i64 0, .int .i64 2, .int .i64 0, .int .i64 1, .int .i64 0, .int .i64 1, .int .i64 0, .int .i64 0] :: Ass.box 113 g92 [.int .i64 0, .int .i64 1, .int .i64 1] :: os) hS 1 rfl 113 0 (.agg #[.int .i64 0, .int .i64 1, .int .i64 1]) [.int .i64 0, .int .i64 1, .int .i64 1] (by kernel_rfl) (by kernel_rfl) (by kernel_rfl) (by kernel_rfl) (by kernel_rfl) (by kernel_rfl) rfl rfl ?_)
                     intro w hS
                     refine EL.done (by kernel_rfl) ?_
                     refine EQ.code ?_
                     refine EW.ret (by kernel_rfl) ?_
                     obtain rfl := Option.some.inj H
                     exact EQ.leaveC hS 1 rfl 2 113 0 3 (.agg #[.int .i64 0, .int .i64 1, .int .i64 1]) (by kernel_rfl) (by kernel_rfl) (by kernel_rfl) ⟨_, rfl, rfl, (hS.re [] [0, 0] rfl (sub_self))⟩
                    ·rw [if_neg c2] at H
                     by_cases c3 : a44 = 19
                     ·rw [if_pos c3] at H
                      refine EL.keep [2, 3, 35] [(2, .pointer (some ⟨g92, 0, none⟩)), (3, .pointer (some ⟨a0, 0, none⟩)), (35, .int .i64 a44)] (by kernel_rfl) ?_
                      refine EL.as' [(2, .pointer (some ⟨g92, 0, none⟩)), (3, .pointer (some ⟨a0, 0, none⟩)), (35, .int .i64 19)] (by simp only [c3]) ?_
                      refine EL.quick 1 [2, 36] [(2, .pointer (some ⟨g92, 0, none⟩)), (36, .pointer (some ⟨a0, 57, none⟩))] (by kernel_rfl) ?_
                      refine EL.of (EO.Y (YO.loadBox hS 0 rfl 113 57 3 (.agg #[.int .i64 0, .int .i64 2, .int .i64 0]) 37 (by kernel_rfl) (by kernel_rfl) (by kernel_rfl) (by kernel_rfl)) ?_)
                      refine EL.of (EO.storeBox (os' := Ass.box 119 a0 [.int .i64 0, .int .i64 0, .int .i64 0, .int .i64 1, .int .i64 0, .int .i64 1, .int .i64 0, .int .i64 1, .int .i64 0, .int .i64 0, .int .i64 1, .int .i64 2, .int .i64 0, .int .i64 2, .int .i64 1, .int .i64 0, .int .i64 2, .int .i64 1, .int .i64 0, .int .i64 2, .int .i64 1, .int .i64 0, .int .i64 2, .int .i64 1, .int .i64 0, .int .i64 2, .int .i64 1, .int .i64 0, .int .i64 2, .int .i64 1, .int .i64 2, .int .i64 0, .int .i64 0, .int .i64 2, .int .i64 1, .int .i64 0, .int .i64 3, .int .i64 0, .int .i64 1, .int .i64 3, .int .i64 1, .int .i64 0, .int .i64 0, .int .i64 0, .int .i64 1, .int .i64 4, .int .i64 0, .int .i64 0, .int .i64 4, .int .i64 1, .int .i64 1, .int .i64 4, .int .i64 1, .int .i64 1, .int .i64 0, .int .i64 1, .int .i64 1, .int .i64 0, .int .i64 2, .int .i64 0, .int .i64 5, .int .i64 2, .int .i64 1, .int .i64 0, .int .i64 1, .int .i64 1, .int .i64 4, .int .i64 1, .int .i64 0, .int .i64 6, .int .i64 1, .int .i64 1, .int .i64 6, .int .i64 0, .int .i64 2, .int .i64 0, .int .i64 1, .int .i64 0, .int .i64 1, .int .i64 0, .int .i64 0] :: Ass.box 113 g92 [.int .i64 0, .int .i64 2, .int .i64 0] :: os) hS 1 rfl 113 0 (.agg #[.int .i64 0, .int .i64 2, .int .i64 0]) [.int .i64 0, .int .i64 2, .int .i64 0] (by kernel_rfl) (by kernel_rfl) (by kernel_rfl) (by kernel_rfl) (by kernel_rfl) (by kernel_rfl) rfl rfl ?_)
                      intro w hS
                      refine EL.done (by kernel_rfl) ?_
                      refine EQ.code ?_
                      refine EW.ret (by kernel_rfl) ?_
                      obtain rfl := Option.some.inj H
                      exact EQ.leaveC hS 1 rfl 2 113 0 3 (.agg #[.int .i64 0, .int .i64 2, .int .i64 0]) (by kernel_rfl) (by kernel_rfl) (by kernel_rfl) ⟨_, rfl, rfl, (hS.re [] [0, 0] rfl (sub_self))⟩
                     ·rw [if_neg c3] at H
                      by_cases c4 : a44 = 20
                      ·rw [if_pos c4] at H
                       refine EL.keep [2, 3, 35] [(2, .pointer (some ⟨g92, 0, none⟩)), (3, .pointer (some ⟨a0, 0, none⟩)), (35, .int .i64 a44)] (by kernel_rfl) ?_
                       refine EL.as' [(2, .pointer (some ⟨g92, 0, none⟩)), (3, .pointer (some ⟨a0, 0, none⟩)), (35, .int .i64 20)] (by simp only [c4]) ?_
                       refine EL.quick 1 [2, 36] [(2, .pointer (some ⟨g92, 0, none⟩)), (36, .pointer (some ⟨a0, 60, none⟩))] (by kernel_rfl) ?_
                       refine EL.of (EO.Y (YO.loadBox hS 0 rfl 113 60 3 (.agg #[.int .i64 5, .int .i64 2, .int .i64 1]) 37 (by kernel_rfl) (by kernel_rfl) (by kernel_rfl) (by kernel_rfl)) ?_)
                       refine EL.of (EO.storeBox (os' := Ass.box 119 a0 [.int .i64 0, .int .i64 0, .int .i64 0, .int .i64 1, .int .i64 0, .int .i64 1, .int .i64 0, .int .i64 1, .int .i64 0, .int .i64 0, .int .i64 1, .int .i64 2, .int .i64 0, .int .i64 2, .int .i64 1, .int .i64 0, .int .i64 2, .int .i64 1, .int .i64 0, .int .i64 2, .int .i64 1, .int .i64 0, .int .i64 2, .int .i64 1, .int .i64 0, .int .i64 2, .int .i64 1, .int .i64 0, .int .i64 2, .int .i64 1, .int .i64 2, .int .i64 0, .int .i64 0, .int .i64 2, .int .i64 1, .int .i64 0, .int .i64 3, .int .i64 0, .int .i64 1, .int .i64 3, .int .i64 1, .int .i64 0, .int .i64 0, .int .i64 0, .int .i64 1, .int .i64 4, .int .i64 0, .int .i64 0, .int .i64 4, .int .i64 1, .int .i64 1, .int .i64 4, .int .i64 1, .int .i64 1, .int .i64 0, .int .i64 1, .int .i64 1, .int .i64 0, .int .i64 2, .int .i64 0, .int .i64 5, .int .i64 2, .int .i64 1, .int .i64 0, .int .i64 1, .int .i64 1, .int .i64 4, .int .i64 1, .int .i64 0, .int .i64 6, .int .i64 1, .int .i64 1, .int .i64 6, .int .i64 0, .int .i64 2, .int .i64 0, .int .i64 1, .int .i64 0, .int .i64 1, .int .i64 0, .int .i64 0] :: Ass.box 113 g92 [.int .i64 5, .int .i64 2, .int .i64 1] :: os) hS 1 rfl 113 0 (.agg #[.int .i64 5, .int .i64 2, .int .i64 1]) [.int .i64 5, .int .i64 2, .int .i64 1] (by kernel_rfl) (by kernel_rfl) (by kernel_rfl) (by kernel_rfl) (by kernel_rfl) (by kernel_rfl) rfl rfl ?_)
                       intro w hS
                       refine EL.done (by kernel_rfl) ?_
                       refine EQ.code ?_
                       refine EW.ret (by kernel_rfl) ?_
                       obtain rfl := Option.some.inj H
                       exact EQ.leaveC hS 1 rfl 2 113 0 3 (.agg #[.int .i64 5, .int .i64 2, .int .i64 1]) (by kernel_rfl) (by kernel_rfl) (by kernel_rfl) ⟨_, rfl, rfl, (hS.re [] [0, 0] rfl (sub_self))⟩
                      ·rw [if_neg c4] at H
                       by_cases c5 : a44 = 21
                       ·rw [if_pos c5] at H
                        refine EL.keep [2, 3, 35] [(2, .pointer (some ⟨g92, 0, none⟩)), (3, .pointer (some ⟨a0, 0, none⟩)), (35, .int .i64 a44)] (by kernel_rfl) ?_
                        refine EL.as' [(2, .pointer (some ⟨g92, 0, none⟩)), (3, .pointer (some ⟨a0, 0, none⟩)), (35, .int .i64 21)] (by simp only [c5]) ?_
                        refine EL.quick 1 [2, 36] [(2, .pointer (some ⟨g92, 0, none⟩)), (36, .pointer (some ⟨a0, 63, none⟩))] (by kernel_rfl) ?_
                        refine EL.of (EO.Y (YO.loadBox hS 0 rfl 113 63 3 (.agg #[.int .i64 0, .int .i64 1, .int .i64 1]) 37 (by kernel_rfl) (by kernel_rfl) (by kernel_rfl) (by kernel_rfl)) ?_)
                        refine EL.of (EO.storeBox (os' := Ass.box 119 a0 [.int .i64 0, .int .i64 0, .int .i64 0, .int .i64 1, .int .i64 0, .int .i64 1, .int .i64 0, .int .i64 1, .int .i64 0, .int .i64 0, .int .i64 1, .int .i64 2, .int .i64 0, .int .i64 2, .int .i64 1, .int .i64 0, .int .i64 2, .int .i64 1, .int .i64 0, .int .i64 2, .int .i64 1, .int .i64 0, .int .i64 2, .int .i64 1, .int .i64 0, .int .i64 2, .int .i64 1, .int .i64 0, .int .i64 2, .int .i64 1, .int .i64 2, .int .i64 0, .int .i64 0, .int .i64 2, .int .i64 1, .int .i64 0, .int .i64 3, .int .i64 0, .int .i64 1, .int .i64 3, .int .i64 1, .int .i64 0, .int .i64 0, .int .i64 0, .int .i64 1, .int .i64 4, .int .i64 0, .int .i64 0, .int .i64 4, .int .i64 1, .int .i64 1, .int .i64 4, .int .i64 1, .int .i64 1, .int .i64 0, .int .i64 1, .int .i64 1, .int .i64 0, .int .i64 2, .int .i64 0, .int .i64 5, .int .i64 2, .int .i64 1, .int .i64 0, .int .i64 1, .int .i64 1, .int .i64 4, .int .i64 1, .int .i64 0, .int .i64 6, .int .i64 1, .int .i64 1, .int .i64 6, .int .i64 0, .int .i64 2, .int .i64 0, .int .i64 1, .int .i64 0, .int .i64 1, .int .i64 0, .int .i64 0] :: Ass.box 113 g92 [.int .i64 0, .int .i64 1, .int .i64 1] :: os) hS 1 rfl 113 0 (.agg #[.int .i64 0, .int .i64 1, .int .i64 1]) [.int .i64 0, .int .i64 1, .int .i64 1] (by kernel_rfl) (by kernel_rfl) (by kernel_rfl) (by kernel_rfl) (by kernel_rfl) (by kernel_rfl) rfl rfl ?_)
                        intro w hS
                        refine EL.done (by kernel_rfl) ?_
                        refine EQ.code ?_
                        refine EW.ret (by kernel_rfl) ?_
                        obtain rfl := Option.some.inj H
                        exact EQ.leaveC hS 1 rfl 2 113 0 3 (.agg #[.int .i64 0, .int .i64 1, .int .i64 1]) (by kernel_rfl) (by kernel_rfl) (by kernel_rfl) ⟨_, rfl, rfl, (hS.re [] [0, 0] rfl (sub_self))⟩
                       ·rw [if_neg c5] at H
                        by_cases c6 : a44 = 22
                        ·rw [if_pos c6] at H
                         refine EL.keep [2, 3, 35] [(2, .pointer (some ⟨g92, 0, none⟩)), (3, .pointer (some ⟨a0, 0, none⟩)), (35, .int .i64 a44)] (by kernel_rfl) ?_
                         refine EL.as' [(2, .pointer (some ⟨g92, 0, none⟩)), (3, .pointer (some ⟨a0, 0, none⟩)), (35, .int .i64 22)] (by simp only [c6]) ?_
                         refine EL.quick 1 [2, 36] [(2, .pointer (some ⟨g92, 0, none⟩)), (36, .pointer (some ⟨a0, 66, none⟩))] (by kernel_rfl) ?_
                         refine EL.of (EO.Y (YO.loadBox hS 0 rfl 113 66 3 (.agg #[.int .i64 4, .int .i64 1, .int .i64 0]) 37 (by kernel_rfl) (by kernel_rfl) (by kernel_rfl) (by kernel_rfl)) ?_)
                         refine EL.of (EO.storeBox (os' := Ass.box 119 a0 [.int .i64 0, .int .i64 0, .int .i64 0, .int .i64 1, .int .i64 0, .int .i64 1, .int .i64 0, .int .i64 1, .int .i64 0, .int .i64 0, .int .i64 1, .int .i64 2, .int .i64 0, .int .i64 2, .int .i64 1, .int .i64 0, .int .i64 2, .int .i64 1, .int .i64 0, .int .i64 2, .int .i64 1, .int .i64 0, .int .i64 2, .int .i64 1, .int .i64 0, .int .i64 2, .int .i64 1, .int .i64 0, .int .i64 2, .int .i64 1, .int .i64 2, .int .i64 0, .int .i64 0, .int .i64 2, .int .i64 1, .int .i64 0, .int .i64 3, .int .i64 0, .int .i64 1, .int .i64 3, .int .i64 1, .int .i64 0, .int .i64 0, .int .i64 0, .int .i64 1, .int .i64 4, .int .i64 0, .int .i64 0, .int .i64 4, .int .i64 1, .int .i64 1, .int .i64 4, .int .i64 1, .int .i64 1, .int .i64 0, .int .i64 1, .int .i64 1, .int .i64 0, .int .i64 2, .int .i64 0, .int .i64 5, .int .i64 2, .int .i64 1, .int .i64 0, .int .i64 1, .int .i64 1, .int .i64 4, .int .i64 1, .int .i64 0, .int .i64 6, .int .i64 1, .int .i64 1, .int .i64 6, .int .i64 0, .int .i64 2, .int .i64 0, .int .i64 1, .int .i64 0, .int .i64 1, .int .i64 0, .int .i64 0] :: Ass.box 113 g92 [.int .i64 4, .int .i64 1, .int .i64 0] :: os) hS 1 rfl 113 0 (.agg #[.int .i64 4, .int .i64 1, .int .i64 0]) [.int .i64 4, .int .i64 1, .int .i64 0] (by kernel_rfl) (by kernel_rfl) (by kernel_rfl) (by kernel_rfl) (by kernel_rfl) (by kernel_rfl) rfl rfl ?_)
                         intro w hS
                         refine EL.done (by kernel_rfl) ?_
                         refine EQ.code ?_
                         refine EW.ret (by kernel_rfl) ?_
                         obtain rfl := Option.some.inj H
                         exact EQ.leaveC hS 1 rfl 2 113 0 3 (.agg #[.int .i64 4, .int .i64 1, .int .i64 0]) (by kernel_rfl) (by kernel_rfl) (by kernel_rfl) ⟨_, rfl, rfl, (hS.re [] [0, 0] rfl (sub_self))⟩
                        ·rw [if_neg c6] at H
                         by_cases c7 : a44 = 23
                         ·rw [if_pos c7] at H
                          refine EL.keep [2, 3, 35] [(2, .pointer (some ⟨g92, 0, none⟩)), (3, .pointer (some ⟨a0, 0, none⟩)), (35, .int .i64 a44)] (by kernel_rfl) ?_
                          refine EL.as' [(2, .pointer (some ⟨g92, 0, none⟩)), (3, .pointer (some ⟨a0, 0, none⟩)), (35, .int .i64 23)] (by simp only [c7]) ?_
                          refine EL.quick 1 [2, 36] [(2, .pointer (some ⟨g92, 0, none⟩)), (36, .pointer (some ⟨a0, 69, none⟩))] (by kernel_rfl) ?_
                          refine EL.of (EO.Y (YO.loadBox hS 0 rfl 113 69 3 (.agg #[.int .i64 6, .int .i64 1, .int .i64 1]) 37 (by kernel_rfl) (by kernel_rfl) (by kernel_rfl) (by kernel_rfl)) ?_)
                          refine EL.of (EO.storeBox (os' := Ass.box 119 a0 [.int .i64 0, .int .i64 0, .int .i64 0, .int .i64 1, .int .i64 0, .int .i64 1, .int .i64 0, .int .i64 1, .int .i64 0, .int .i64 0, .int .i64 1, .int .i64 2, .int .i64 0, .int .i64 2, .int .i64 1, .int .i64 0, .int .i64 2, .int .i64 1, .int .i64 0, .int .i64 2, .int .i64 1, .int .i64 0, .int .i64 2, .int .i64 1, .int .i64 0, .int .i64 2, .int .i64 1, .int .i64 0, .int .i64 2, .int .i64 1, .int .i64 2, .int .i64 0, .int .i64 0, .int .i64 2, .int .i64 1, .int .i64 0, .int .i64 3, .int .i64 0, .int .i64 1, .int .i64 3, .int .i64 1, .int .i64 0, .int .i64 0, .int .i64 0, .int .i64 1, .int .i64 4, .int .i64 0, .int .i64 0, .int .i64 4, .int .i64 1, .int .i64 1, .int .i64 4, .int .i64 1, .int .i64 1, .int .i64 0, .int .i64 1, .int .i64 1, .int .i64 0, .int .i64 2, .int .i64 0, .int .i64 5, .int .i64 2, .int .i64 1, .int .i64 0, .int .i64 1, .int .i64 1, .int .i64 4, .int .i64 1, .int .i64 0, .int .i64 6, .int .i64 1, .int .i64 1, .int .i64 6, .int .i64 0, .int .i64 2, .int .i64 0, .int .i64 1, .int .i64 0, .int .i64 1, .int .i64 0, .int .i64 0] :: Ass.box 113 g92 [.int .i64 6, .int .i64 1, .int .i64 1] :: os) hS 1 rfl 113 0 (.agg #[.int .i64 6, .int .i64 1, .int .i64 1]) [.int .i64 6, .int .i64 1, .int .i64 1] (by kernel_rfl) (by kernel_rfl) (by kernel_rfl) (by kernel_rfl) (by kernel_rfl) (by kernel_rfl) rfl rfl ?_)
                          intro w hS
                          refine EL.done (by kernel_rfl) ?_
                          refine EQ.code ?_
                          refine EW.ret (by kernel_rfl) ?_
                          obtain rfl := Option.some.inj H
                          exact EQ.leaveC hS 1 rfl 2 113 0 3 (.agg #[.int .i64 6, .int .i64 1, .int .i64 1]) (by kernel_rfl) (by kernel_rfl) (by kernel_rfl) ⟨_, rfl, rfl, (hS.re [] [0, 0] rfl (sub_self))⟩
                         ·rw [if_neg c7] at H
                          by_cases c8 : a44 = 24
                          ·rw [if_pos c8] at H
                           refine EL.keep [2, 3, 35] [(2, .pointer (some ⟨g92, 0, none⟩)), (3, .pointer (some ⟨a0, 0, none⟩)), (35, .int .i64 a44)] (by kernel_rfl) ?_
                           refine EL.as' [(2, .pointer (some ⟨g92, 0, none⟩)), (3, .pointer (some ⟨a0, 0, none⟩)), (35, .int .i64 24)] (by simp only [c8]) ?_
                           refine EL.quick 1 [2, 36] [(2, .pointer (some ⟨g92, 0, none⟩)), (36, .pointer (some ⟨a0, 72, none⟩))] (by kernel_rfl) ?_
                           refine EL.of (EO.Y (YO.loadBox hS 0 rfl 113 72 3 (.agg #[.int .i64 6, .int .i64 0, .int .i64 2]) 37 (by kernel_rfl) (by kernel_rfl) (by kernel_rfl) (by kernel_rfl)) ?_)
                           refine EL.of (EO.storeBox (os' := Ass.box 119 a0 [.int .i64 0, .int .i64 0, .int .i64 0, .int .i64 1, .int .i64 0, .int .i64 1, .int .i64 0, .int .i64 1, .int .i64 0, .int .i64 0, .int .i64 1, .int .i64 2, .int .i64 0, .int .i64 2, .int .i64 1, .int .i64 0, .int .i64 2, .int .i64 1, .int .i64 0, .int .i64 2, .int .i64 1, .int .i64 0, .int .i64 2, .int .i64 1, .int .i64 0, .int .i64 2, .int .i64 1, .int .i64 0, .int .i64 2, .int .i64 1, .int .i64 2, .int .i64 0, .int .i64 0, .int .i64 2, .int .i64 1, .int .i64 0, .int .i64 3, .int .i64 0, .int .i64 1, .int .i64 3, .int .i64 1, .int .i64 0, .int .i64 0, .int .i64 0, .int .i64 1, .int .i64 4, .int .i64 0, .int .i64 0, .int .i64 4, .int .i64 1, .int .i64 1, .int .i64 4, .int .i64 1, .int .i64 1, .int .i64 0, .int .i64 1, .int .i64 1, .int .i64 0, .int .i64 2, .int .i64 0, .int .i64 5, .int .i64 2, .int .i64 1, .int .i64 0, .int .i64 1, .int .i64 1, .int .i64 4, .int .i64 1, .int .i64 0, .int .i64 6, .int .i64 1, .int .i64 1, .int .i64 6, .int .i64 0, .int .i64 2, .int .i64 0, .int .i64 1, .int .i64 0, .int .i64 1, .int .i64 0, .int .i64 0] :: Ass.box 113 g92 [.int .i64 6, .int .i64 0, .int .i64 2] :: os) hS 1 rfl 113 0 (.agg #[.int .i64 6, .int .i64 0, .int .i64 2]) [.int .i64 6, .int .i64 0, .int .i64 2] (by kernel_rfl) (by kernel_rfl) (by kernel_rfl) (by kernel_rfl) (by kernel_rfl) (by kernel_rfl) rfl rfl ?_)
                           intro w hS
                           refine EL.done (by kernel_rfl) ?_
                           refine EQ.code ?_
                           refine EW.ret (by kernel_rfl) ?_
                           obtain rfl := Option.some.inj H
                           exact EQ.leaveC hS 1 rfl 2 113 0 3 (.agg #[.int .i64 6, .int .i64 0, .int .i64 2]) (by kernel_rfl) (by kernel_rfl) (by kernel_rfl) ⟨_, rfl, rfl, (hS.re [] [0, 0] rfl (sub_self))⟩
                          ·rw [if_neg c8] at H
                           by_cases c9 : a44 = 25
                           ·rw [if_pos c9] at H
                            refine EL.keep [2, 3, 35] [(2, .pointer (some ⟨g92, 0, none⟩)), (3, .pointer (some ⟨a0, 0, none⟩)), (35, .int .i64 a44)] (by kernel_rfl) ?_
                            refine EL.as' [(2, .pointer (some ⟨g92, 0, none⟩)), (3, .pointer (some ⟨a0, 0, none⟩)), (35, .int .i64 25)] (by simp only [c9]) ?_
                            refine EL.quick 1 [2, 36] [(2, .pointer (some ⟨g92, 0, none⟩)), (36, .pointer (some ⟨a0, 75, none⟩))] (by kernel_rfl) ?_
                            refine EL.of (EO.Y (YO.loadBox hS 0 rfl 113 75 3 (.agg #[.int .i64 0, .int .i64 1, .int .i64 0]) 37 (by kernel_rfl) (by kernel_rfl) (by kernel_rfl) (by kernel_rfl)) ?_)
                            refine EL.of (EO.storeBox (os' := Ass.box 119 a0 [.int .i64 0, .int .i64 0, .int .i64 0, .int .i64 1, .int .i64 0, .int .i64 1, .int .i64 0, .int .i64 1, .int .i64 0, .int .i64 0, .int .i64 1, .int .i64 2, .int .i64 0, .int .i64 2, .int .i64 1, .int .i64 0, .int .i64 2, .int .i64 1, .int .i64 0, .int .i64 2, .int .i64 1, .int .i64 0, .int .i64 2, .int .i64 1, .int .i64 0, .int .i64 2, .int .i64 1, .int .i64 0, .int .i64 2, .int .i64 1, .int .i64 2, .int .i64 0, .int .i64 0, .int .i64 2, .int .i64 1, .int .i64 0, .int .i64 3, .int .i64 0, .int .i64 1, .int .i64 3, .int .i64 1, .int .i64 0, .int .i64 0, .int .i64 0, .int .i64 1, .int .i64 4, .int .i64 0, .int .i64 0, .int .i64 4, .int .i64 1, .int .i64 1, .int .i64 4, .int .i64 1, .int .i64 1, .int .i64 0, .int .i64 1, .int .i64 1, .int .i64 0, .int .i64 2, .int .i64 0, .int .i64 5, .int .i64 2, .int .i64 1, .int .i64 0, .int .i64 1, .int .i64 1, .int .i64 4, .int .i64 1, .int .i64 0, .int .i64 6, .int .i64 1, .int .i64 1, .int .i64 6, .int .i64 0, .int .i64 2, .int .i64 0, .int .i64 1, .int .i64 0, .int .i64 1, .int .i64 0, .int .i64 0] :: Ass.box 113 g92 [.int .i64 0, .int .i64 1, .int .i64 0] :: os) hS 1 rfl 113 0 (.agg #[.int .i64 0, .int .i64 1, .int .i64 0]) [.int .i64 0, .int .i64 1, .int .i64 0] (by kernel_rfl) (by kernel_rfl) (by kernel_rfl) (by kernel_rfl) (by kernel_rfl) (by kernel_rfl) rfl rfl ?_)
                            intro w hS
                            refine EL.done (by kernel_rfl) ?_
                            refine EQ.code ?_
                            refine EW.ret (by kernel_rfl) ?_
                            obtain rfl := Option.some.inj H
                            exact EQ.leaveC hS 1 rfl 2 113 0 3 (.agg #[.int .i64 0, .int .i64 1, .int .i64 0]) (by kernel_rfl) (by kernel_rfl) (by kernel_rfl) ⟨_, rfl, rfl, (hS.re [] [0, 0] rfl (sub_self))⟩
                           ·rw [if_neg c9] at H
                            by_cases d0 : a44 = 26
                            ·rw [if_pos d0] at H
                             refine EL.keep [2, 3, 35] [(2, .pointer (some ⟨g92, 0, none⟩)), (3, .pointer (some ⟨a0, 0, none⟩)), (35, .int .i64 a44)] (by kernel_rfl) ?_
                             refine EL.as' [(2, .pointer (some ⟨g92, 0, none⟩)), (3, .pointer (some ⟨a0, 0, none⟩)), (35, .int .i64 26)] (by simp only [d0]) ?_
                             refine EL.quick 1 [2, 36] [(2, .pointer (some ⟨g92, 0, none⟩)), (36, .pointer (some ⟨a0, 78, none⟩))] (by kernel_rfl) ?_
                             refine EL.of (EO.Y (YO.loadBox hS 0 rfl 113 78 3 (.agg #[.int .i64 1, .int .i64 0, .int .i64 0]) 37 (by kernel_rfl) (by kernel_rfl) (by kernel_rfl) (by kernel_rfl)) ?_)
                             refine EL.of (EO.storeBox (os' := Ass.box 119 a0 [.int .i64 0, .int .i64 0, .int .i64 0, .int .i64 1, .int .i64 0, .int .i64 1, .int .i64 0, .int .i64 1, .int .i64 0, .int .i64 0, .int .i64 1, .int .i64 2, .int .i64 0, .int .i64 2, .int .i64 1, .int .i64 0, .int .i64 2, .int .i64 1, .int .i64 0, .int .i64 2, .int .i64 1, .int .i64 0, .int .i64 2, .int .i64 1, .int .i64 0, .int .i64 2, .int .i64 1, .int .i64 0, .int .i64 2, .int .i64 1, .int .i64 2, .int .i64 0, .int .i64 0, .int .i64 2, .int .i64 1, .int .i64 0, .int .i64 3, .int .i64 0, .int .i64 1, .int .i64 3, .int .i64 1, .int .i64 0, .int .i64 0, .int .i64 0, .int .i64 1, .int .i64 4, .int .i64 0, .int .i64 0, .int .i64 4, .int .i64 1, .int .i64 1, .int .i64 4, .int .i64 1, .int .i64 1, .int .i64 0, .int .i64 1, .int .i64 1, .int .i64 0, .int .i64 2, .int .i64 0, .int .i64 5, .int .i64 2, .int .i64 1, .int .i64 0, .int .i64 1, .int .i64 1, .int .i64 4, .int .i64 1, .int .i64 0, .int .i64 6, .int .i64 1, .int .i64 1, .int .i64 6, .int .i64 0, .int .i64 2, .int .i64 0, .int .i64 1, .int .i64 0, .int .i64 1, .int .i64 0, .int .i64 0] :: Ass.box 113 g92 [.int .i64 1, .int .i64 0, .int .i64 0] :: os) hS 1 rfl 113 0 (.agg #[.int .i64 1, .int .i64 0, .int .i64 0]) [.int .i64 1, .int .i64 0, .int .i64 0] (by kernel_rfl) (by kernel_rfl) (by kernel_rfl) (by kernel_rfl) (by kernel_rfl) (by kernel_rfl) rfl rfl ?_)
                             intro w hS
                             refine EL.done (by kernel_rfl) ?_
                             refine EQ.code ?_
                             refine EW.ret (by kernel_rfl) ?_
                             obtain rfl := Option.some.inj H
                             exact EQ.leaveC hS 1 rfl 2 113 0 3 (.agg #[.int .i64 1, .int .i64 0, .int .i64 0]) (by kernel_rfl) (by kernel_rfl) (by kernel_rfl) ⟨_, rfl, rfl, (hS.re [] [0, 0] rfl (sub_self))⟩
                            ·rw [if_neg d0] at H
                             cases H
 ·rw [if_neg a2] at H
  refine EW.seq (x := Cd84.r.l.r.l.l) (y := Cd84.r.l.r.l.r) (by kernel_rfl) ?_
  refine EW.region (id := 2) (ops := Cd84.r.l.r.l.l.ops) (by kernel_rfl) ?_
  refine EL.quick 1 [2, 7] [(2, .pointer (some ⟨g92, 0, none⟩)), (7, .agg #[.int .i64 0, .int .i64 0, .int .i64 0])] (by kernel_rfl) ?_
  refine EL.of (EO.storeBox (os' := Ass.box 113 g92 [.int .i64 0, .int .i64 0, .int .i64 0] :: os) hS 0 rfl 113 0 (.agg #[.int .i64 0, .int .i64 0, .int .i64 0]) [.int .i64 0, .int .i64 0, .int .i64 0] (by kernel_rfl) (by kernel_rfl) (by kernel_rfl) (by kernel_rfl) (by kernel_rfl) (by kernel_rfl) rfl rfl ?_)
  intro w hS
  refine EL.done (by kernel_rfl) ?_
  refine EQ.code ?_
  refine EW.ret (by kernel_rfl) ?_
  refine EQ.ret ?_
  obtain rfl := Option.some.inj H
  exact EQ.leaveC hS 0 rfl 2 113 0 3 (.agg #[.int .i64 0, .int .i64 0, .int .i64 0]) (by kernel_rfl) (by kernel_rfl) (by kernel_rfl) ⟨_, rfl, rfl, (hS.re [] [0] rfl (sub_self))⟩

/-! ### confidant/ops.Arg: function 60 -/
def ops_Arg.f (K : Nat) (a43 : Int) : Option Int := b1 (ops_of.f K a43) fun (a0 : S113) => (some a0.f0)
set_option maxRecDepth 100000 in
theorem ops_Arg.calls {K : Nat} {a43 : Int} {a1 : Int} {B w : World} {os : List Ass} {rs : List Ro} (H : ops_Arg.f K a43 = some a1) (hS : St B w (os) (rs)) :
  Calls Try.prog 60 [.int .i64 a43].toArray w (fun en w' => ∃ v, en = .returned v ∧ v = .int .i64 a1 ∧ St B w' (os) (rs)) := by
 unfold ops_Arg.f at H
 refine calls_of_EW (args := [.int .i64 a43]) (c := Cd60) 6 Try.func60 (by kernel_rfl) (by kernel_rfl) (by kernel_rfl) ?_
 refine EW.seq (x := Cd60.l) (y := Cd60.r) (by kernel_rfl) ?_
 refine EW.region (id := 0) (ops := Cd60.l.ops) (by kernel_rfl) ?_
 refine EL.quick 1 [0] [(0, .int .i64 a43)] (by kernel_rfl) ?_
 refine EL.done (by kernel_rfl) ?_
 refine EQ.code ?_
 refine EW.seq (x := Cd60.r.l) (y := Cd60.r.r) (by kernel_rfl) ?_
 refine EW.region (id := 1) (ops := Cd60.r.l.ops) (by kernel_rfl) ?_
 refine EL.quick 1 [3] [(3, .int .i64 a43)] (by kernel_rfl) ?_
 obtain ⟨a0, a2, H⟩ := b1_out H
 refine EL.of (EO.callD 84 [.int .i64 a43] _ 4 (by kernel_rfl) (by kernel_rfl) (by kernel_rfl) (ops_of.calls a2 hS) ?_)
 rintro v w ⟨rfl, hS⟩
 refine EL.quick 2 [2] [(2, .int .i64 a0.f0)] (by kernel_rfl) ?_
 refine EL.done (by kernel_rfl) ?_
 refine EQ.code ?_
 refine EW.ret (by kernel_rfl) ?_
 obtain rfl := Option.some.inj H
 exact EQ.leave (.int .i64 a0.f0) (by kernel_rfl) ⟨_, rfl, rfl, (hS.re [] [] rfl (sub_self))⟩

/-! ### confidant/instr.Right: function 61 -/
def instr_Right.f (K : Nat) (a1 : Int) (a0 : Int) : Option Bool := b1 (ops_Known.f K a1) fun (a4 : Bool) => (if a4 = true then (b1 (ops_Arg.f K a1) fun (a3 : Int) => (if a3 = 0 then (some (decide (a0 = 0))) else (if a3 = 1 then (some true) else (some (decide (a0 ≥ 0)))))) else (some false))
set_option maxRecDepth 100000 in
theorem instr_Right.calls {K : Nat} {a1 : Int} {a0 : Int} {a8 : Bool} {B w : World} {os : List Ass} {rs : List Ro} (H : instr_Right.f K a1 a0 = some a8) (hS : St B w (os) (rs)) :
  Calls Try.prog 61 [.agg #[.int .i64 a1, .int .i32 a0]].toArray w (fun en w' => ∃ v, en = .returned v ∧ v = .bool (a8) ∧ St B w' (os) (rs)) := by
 unfold instr_Right.f at H
 refine calls_of_EW (args := [.agg #[.int .i64 a1, .int .i32 a0]]) (c := Cd61) 20 Try.func61 (by kernel_rfl) (by kernel_rfl) (by kernel_rfl) ?_
 refine EW.seq (x := Cd61.l) (y := Cd61.r) (by kernel_rfl) ?_
 refine EW.region (id := 0) (ops := Cd61.l.ops) (by kernel_rfl) ?_
 refine EL.of (EO.box hS 32 (.agg #[.int .i64 a1, .int .i32 a0]) [.int .i64 a1, .int .i32 a0] 1 (by kernel_rfl) (by kernel_rfl) (by kernel_rfl) (by first | rfl | kernel_rfl) ?_)
 intro a2 w hS
 refine EL.quick 1 [1] [(1, .pointer (some ⟨a2, 0, none⟩))] (by kernel_rfl) ?_
 refine EL.done (by kernel_rfl) ?_
 refine EQ.code ?_
 refine EW.seq (x := Cd61.r.l) (y := Cd61.r.r) (by kernel_rfl) ?_
 refine EW.seq (x := Cd61.r.l.l) (y := Cd61.r.l.r) (by kernel_rfl) ?_
 refine EW.region (id := 1) (ops := Cd61.r.l.l.ops) (by kernel_rfl) ?_
 refine EL.quick 1 [1, 3] [(1, .pointer (some ⟨a2, 0, none⟩)), (3, .pointer (some ⟨a2, 0, none⟩))] (by kernel_rfl) ?_
 refine EL.of (EO.Y (YO.loadBox hS 0 rfl 3 0 1 (.int .i64 a1) 4 (by kernel_rfl) (by kernel_rfl) (by kernel_rfl) (by kernel_rfl)) ?_)
 obtain ⟨a4, a9, H⟩ := b1_out H
 refine EL.of (EO.callD 69 [.int .i64 a1] _ 5 (by kernel_rfl) (by kernel_rfl) (by kernel_rfl) (ops_Known.calls a9 hS) ?_)
 rintro v w ⟨rfl, hS⟩
 refine EL.quick 1 [1, 6] [(1, .pointer (some ⟨a2, 0, none⟩)), (6, .bool (!(a4)))] (by kernel_rfl) ?_
 refine EL.done (by kernel_rfl) ?_
 refine EQ.code ?_
 refine EW.condQ (b := !(a4)) (o := (.tmp 6)) (x := Cd61.r.l.r.l) (y := Cd61.r.l.r.r) (a4 = true) (false) (by kernel_rfl) (by kernel_rfl) ⟨fun h => (by rw [h] <;> rfl), fun h => (by rw [Bool.eq_false_iff.2 h] <;> rfl)⟩ (fun a5 => ?_) (fun a5 => ?_)
 ·rw [if_pos a5] at H
  refine EW.skip (by kernel_rfl) ?_
  refine EQ.code ?_
  refine EW.seq (x := Cd61.r.r.l) (y := Cd61.r.r.r) (by kernel_rfl) ?_
  refine EW.seq (x := Cd61.r.r.l.l) (y := Cd61.r.r.l.r) (by kernel_rfl) ?_
  refine EW.region (id := 3) (ops := Cd61.r.r.l.l.ops) (by kernel_rfl) ?_
  refine EL.quick 1 [1, 7] [(1, .pointer (some ⟨a2, 0, none⟩)), (7, .pointer (some ⟨a2, 0, none⟩))] (by kernel_rfl) ?_
  refine EL.of (EO.Y (YO.loadBox hS 0 rfl 3 0 1 (.int .i64 a1) 8 (by kernel_rfl) (by kernel_rfl) (by kernel_rfl) (by kernel_rfl)) ?_)
  obtain ⟨a3, b0, H⟩ := b1_out H
  refine EL.of (EO.callD 60 [.int .i64 a1] _ 9 (by kernel_rfl) (by kernel_rfl) (by kernel_rfl) (ops_Arg.calls b0 hS) ?_)
  rintro v w ⟨rfl, hS⟩
  refine EL.done (by kernel_rfl) ?_
  refine EQ.code ?_
  refine EW.block (x := Cd61.r.r.l.r.l) (id := 0) (by kernel_rfl) ?_
  refine EW.seq (x := Cd61.r.r.l.r.l.l) (y := Cd61.r.r.l.r.l.r) (by kernel_rfl) ?_
  refine EW.region (id := 4) (ops := Cd61.r.r.l.r.l.l.ops) (by kernel_rfl) ?_
  refine EL.quick 2 [1, 9, 10] [(1, .pointer (some ⟨a2, 0, none⟩)), (9, .int .i64 a3), (10, .bool (decide (a3 = 0)))] (by kernel_rfl) ?_
  refine EL.done (by kernel_rfl) ?_
  refine EQ.code ?_
  refine EW.condP (o := (.tmp 10)) (x := Cd61.r.r.l.r.l.r.l) (y := Cd61.r.r.l.r.l.r.r) (a3 = 0) (by kernel_rfl) (by kernel_rfl) (fun a6 => ?_) (fun a6 => ?_)
  ·rw [if_pos a6] at H
   refine EW.seq (x := Cd61.r.r.l.r.l.r.l.l) (y := Cd61.r.r.l.r.l.r.l.r) (by kernel_rfl) ?_
   refine EW.region (id := 5) (ops := Cd61.r.r.l.r.l.r.l.l.ops) (by kernel_rfl) ?_
   refine EL.quick 1 [12] [(12, .pointer (some ⟨a2, 1, none⟩))] (by kernel_rfl) ?_
   refine EL.of (EO.Y (YO.loadBox hS 0 rfl 21 1 1 (.int .i32 a0) 13 (by kernel_rfl) (by kernel_rfl) (by kernel_rfl) (by kernel_rfl)) ?_)
   refine EL.quick 2 [2] [(2, .bool (decide (a0 = 0)))] (by kernel_rfl) ?_
   refine EL.done (by kernel_rfl) ?_
   refine EQ.code ?_
   refine EW.ret (by kernel_rfl) ?_
   refine EQ.ret ?_
   refine EQ.ret ?_
   obtain rfl := Option.some.inj H
   exact EQ.leave (.bool (decide (a0 = 0))) (by kernel_rfl) ⟨_, rfl, rfl, (hS.re [] [0] rfl (sub_self))⟩
  ·rw [if_neg a6] at H
   refine EW.seq (x := Cd61.r.r.l.r.l.r.r.l) (y := Cd61.r.r.l.r.l.r.r.r) (by kernel_rfl) ?_
   refine EW.region (id := 6) (ops := Cd61.r.r.l.r.l.r.r.l.ops) (by kernel_rfl) ?_
   refine EL.quick 2 [1, 15] [(1, .pointer (some ⟨a2, 0, none⟩)), (15, .bool (decide (a3 = 1)))] (by kernel_rfl) ?_
   refine EL.done (by kernel_rfl) ?_
   refine EQ.code ?_
   refine EW.condP (o := (.tmp 15)) (x := Cd61.r.r.l.r.l.r.r.r.l) (y := Cd61.r.r.l.r.l.r.r.r.r) (a3 = 1) (by kernel_rfl) (by kernel_rfl) (fun a7 => ?_) (fun a7 => ?_)
   ·rw [if_pos a7] at H
    refine EW.seq (x := Cd61.r.r.l.r.l.r.r.r.l.l) (y := Cd61.r.r.l.r.l.r.r.r.l.r) (by kernel_rfl) ?_
    refine EW.region (id := 7) (ops := Cd61.r.r.l.r.l.r.r.r.l.l.ops) (by kernel_rfl) ?_
    refine EL.quick 1 [2] [(2, .bool (true))] (by kernel_rfl) ?_
    refine EL.done (by kernel_rfl) ?_
    refine EQ.code ?_
    refine EW.ret (by kernel_rfl) ?_
    refine EQ.ret ?_
    refine EQ.ret ?_
    obtain rfl := Option.some.inj H
    exact EQ.leave (.bool (true)) (by kernel_rfl) ⟨_, rfl, rfl, (hS.re [] [0] rfl (sub_self))⟩
   ·rw [if_neg a7] at H
    refine EW.skip (by kernel_rfl) ?_
    refine EQ.pop ?_
    refine EQ.code ?_
    refine EW.seq (x := Cd61.r.r.r.l) (y := Cd61.r.r.r.r) (by kernel_rfl) ?_
    refine EW.region (id := 8) (ops := Cd61.r.r.r.l.ops) (by kernel_rfl) ?_
    refine EL.quick 1 [17] [(17, .pointer (some ⟨a2, 1, none⟩))] (by kernel_rfl) ?_
    refine EL.of (EO.Y (YO.loadBox hS 0 rfl 21 1 1 (.int .i32 a0) 18 (by kernel_rfl) (by kernel_rfl) (by kernel_rfl) (by kernel_rfl)) ?_)
    refine EL.quick 2 [2] [(2, .bool (decide (a0 ≥ 0)))] (by kernel_rfl) ?_
    refine EL.done (by kernel_rfl) ?_
    refine EQ.code ?_
    refine EW.ret (by kernel_rfl) ?_
    obtain rfl := Option.some.inj H
    exact EQ.leave (.bool (decide (a0 ≥ 0))) (by kernel_rfl) ⟨_, rfl, rfl, (hS.re [] [0] rfl (sub_self))⟩
 ·rw [if_neg a5] at H
  refine EW.seq (x := Cd61.r.l.r.l.l) (y := Cd61.r.l.r.l.r) (by kernel_rfl) ?_
  refine EW.region (id := 2) (ops := Cd61.r.l.r.l.l.ops) (by kernel_rfl) ?_
  refine EL.quick 1 [2] [(2, .bool (false))] (by kernel_rfl) ?_
  refine EL.done (by kernel_rfl) ?_
  refine EQ.code ?_
  refine EW.ret (by kernel_rfl) ?_
  refine EQ.ret ?_
  obtain rfl := Option.some.inj H
  exact EQ.leave (.bool (false)) (by kernel_rfl) ⟨_, rfl, rfl, (hS.re [] [0] rfl (sub_self))⟩

/-! ### confidant/verify.may: function 42 -/
def verify_may.f (K : Nat) (a23 : Int) (a24 : Int) (a25 : Int) (a26 : Int) (a27 : Int) (a28 : Int) : Option Bool := lt (mput ([] : List (Int × Int)) 2 a25) fun a7 => (lt (mput a7 3 4) fun a8 => (lt (mput a8 4 a27) fun a9 => (lt (mput a9 5 a26) fun b0 => (lt (mput b0 6 a28) fun a0 => (b1 (ops_Arg.f K a23) fun (a1 : Int) => (b1 (instr_Right.f K a23 a24) fun (a4 : Bool) => (if a4 = true then (if (mhas a0 a1) = true then (some (decide ((IntKind.i64.wrap a24) < (mget a0 a1)))) else (some true)) else (some false))))))))
set_option maxRecDepth 100000 in
theorem verify_may.calls {K : Nat} {a23 : Int} {a24 : Int} {a25 : Int} {a26 : Int} {a27 : Int} {a28 : Int} {b2 : Bool} {B w : World} {os : List Ass} {rs : List Ro} (H : verify_may.f K a23 a24 a25 a26 a27 a28 = some b2) (hS : St B w (os) (rs)) :
  Calls Try.prog 42 [.agg #[.int .i64 a23, .int .i32 a24], .int .i64 a25, .int .i64 a26, .int .i64 a27, .int .i64 a28].toArray w (fun en w' => ∃ v, en = .returned v ∧ v = .bool (b2) ∧ St B w' (os) (rs)) := by
 unfold verify_may.f at H
 refine calls_of_EW (args := [.agg #[.int .i64 a23, .int .i32 a24], .int .i64 a25, .int .i64 a26, .int .i64 a27, .int .i64 a28]) (c := Cd42) 41 Try.func42 (by kernel_rfl) (by kernel_rfl) (by kernel_rfl) ?_
 refine EW.seq (x := Cd42.l) (y := Cd42.r) (by kernel_rfl) ?_
 refine EW.region (id := 0) (ops := Cd42.l.ops) (by kernel_rfl) ?_
 refine EL.of (EO.box hS 32 (.agg #[.int .i64 a23, .int .i32 a24]) [.int .i64 a23, .int .i32 a24] 5 (by kernel_rfl) (by kernel_rfl) (by kernel_rfl) (by first | rfl | kernel_rfl) ?_)
 intro a2 w hS
 refine EL.quick 1 [1, 2, 3, 4, 5] [(1, .int .i64 a25), (2, .int .i64 a26), (3, .int .i64 a27), (4, .int .i64 a28), (5, .pointer (some ⟨a2, 0, none⟩))] (by kernel_rfl) ?_
 refine EL.done (by kernel_rfl) ?_
 refine EQ.code ?_
 refine EW.seq (x := Cd42.r.l) (y := Cd42.r.r) (by kernel_rfl) ?_
 refine EW.region (id := 1) (ops := Cd42.r.l.ops) (by kernel_rfl) ?_
 refine EL.of (EO.makeMap hS 107 .i64 .i64 14 (by kernel_rfl) (by kernel_rfl) (by kernel_rfl) ?_)
 intro a3 w hS
 refine EL.quick 1 [2, 3, 4, 5, 14, 15] [(2, .int .i64 a26), (3, .int .i64 a27), (4, .int .i64 a28), (5, .pointer (some ⟨a2, 0, none⟩)), (14, .map (mref a3)), (15, .int .i64 a25)] (by kernel_rfl) ?_
 obtain ⟨a7, b5, H⟩ := lt_out H
 refine EL.of (EO.mapPut hS 0 rfl .i64 107 3 3 2 a25 (Ass.mp .i64 .i64 a3 a7 :: Ass.box 32 a2 [.int .i64 a23, .int .i32 a24] :: os) (by kernel_rfl) (by kernel_rfl) (by kernel_rfl) (by kernel_rfl) (by kernel_rfl) b5 rfl ?_)
 intro w hS
 obtain ⟨a8, b6, H⟩ := lt_out H
 refine EL.of (EO.mapPut hS 0 rfl .i64 107 3 3 3 4 (Ass.mp .i64 .i64 a3 a8 :: Ass.box 32 a2 [.int .i64 a23, .int .i32 a24] :: os) (by kernel_rfl) (by kernel_rfl) (by kernel_rfl) (by kernel_rfl) (by kernel_rfl) b6 rfl ?_)
 intro w hS
 refine EL.quick 1 [2, 4, 5, 14, 16] [(2, .int .i64 a26), (4, .int .i64 a28), (5, .pointer (some ⟨a2, 0, none⟩)), (14, .map (mref a3)), (16, .int .i64 a27)] (by kernel_rfl) ?_
 obtain ⟨a9, b7, H⟩ := lt_out H
 refine EL.of (EO.mapPut hS 0 rfl .i64 107 3 3 4 a27 (Ass.mp .i64 .i64 a3 a9 :: Ass.box 32 a2 [.int .i64 a23, .int .i32 a24] :: os) (by kernel_rfl) (by kernel_rfl) (by kernel_rfl) (by kernel_rfl) (by kernel_rfl) b7 rfl ?_)
 intro w hS
 refine EL.quick 1 [4, 5, 14, 17] [(4, .int .i64 a28), (5, .pointer (some ⟨a2, 0, none⟩)), (14, .map (mref a3)), (17, .int .i64 a26)] (by kernel_rfl) ?_
 obtain ⟨b0, b8, H⟩ := lt_out H
 refine EL.of (EO.mapPut hS 0 rfl .i64 107 3 3 5 a26 (Ass.mp .i64 .i64 a3 b0 :: Ass.box 32 a2 [.int .i64 a23, .int .i32 a24] :: os) (by kernel_rfl) (by kernel_rfl) (by kernel_rfl) (by kernel_rfl) (by kernel_rfl) b8 rfl ?_)
 intro w hS
 refine EL.quick 1 [5, 14, 18] [(5, .pointer (some ⟨a2, 0, none⟩)), (14, .map (mref a3)), (18, .int .i64 a28)] (by kernel_rfl) ?_
 obtain ⟨a0, b9, H⟩ := lt_out H
 refine EL.of (EO.mapPut hS 0 rfl .i64 107 3 3 6 a28 (Ass.mp .i64 .i64 a3 a0 :: Ass.box 32 a2 [.int .i64 a23, .int .i32 a24] :: os) (by kernel_rfl) (by kernel_rfl) (by kernel_rfl) (by kernel_rfl) (by kernel_rfl) b9 rfl ?_)
 intro w hS
 refine EL.quick 2 [5, 11] [(5, .pointer (some ⟨a2, 0, none⟩)), (11, .map (mref a3))] (by kernel_rfl) ?_
 refine EL.done (by kernel_rfl) ?_
 refine EQ.code ?_
 refine EW.seq (x := Cd42.r.r.l) (y := Cd42.r.r.r) (by kernel_rfl) ?_
 refine EW.region (id := 2) (ops := Cd42.r.r.l.ops) (by kernel_rfl) ?_
 refine EL.quick 2 [5, 21, 22] [(5, .pointer (some ⟨a2, 0, none⟩)), (21, .map (mref a3)), (22, .pointer (some ⟨a2, 0, none⟩))] (by kernel_rfl) ?_
 refine EL.of (EO.Y (YO.loadBox hS 1 rfl 3 0 1 (.int .i64 a23) 23 (by kernel_rfl) (by kernel_rfl) (by kernel_rfl) (by kernel_rfl)) ?_)
 obtain ⟨a1, b3, H⟩ := b1_out H
 refine EL.of (EO.callD 60 [.int .i64 a23] _ 24 (by kernel_rfl) (by kernel_rfl) (by kernel_rfl) (ops_Arg.calls b3 hS) ?_)
 rintro v w ⟨rfl, hS⟩
 refine EL.of (EO.Y (YO.mapGet2 hS 0 rfl .i64 107 3 3 a1 25 (by kernel_rfl) (by kernel_rfl) (by kernel_rfl) (by kernel_rfl) (by kernel_rfl) (by kernel_rfl)) ?_)
 refine EL.quick 5 [5, 12, 13] [(5, .pointer (some ⟨a2, 0, none⟩)), (12, .int .i64 (mget a0 a1)), (13, .bool (mhas a0 a1))] (by kernel_rfl) ?_
 refine EL.done (by kernel_rfl) ?_
 refine EQ.code ?_
 refine EW.seq (x := Cd42.r.r.r.l) (y := Cd42.r.r.r.r) (by kernel_rfl) ?_
 refine EW.region (id := 3) (ops := Cd42.r.r.r.l.ops) (by kernel_rfl) ?_
 refine EL.of (EO.Y (YO.loadBox hS 1 rfl 32 0 2 (.agg #[.int .i64 a23, .int .i32 a24]) 28 (by kernel_rfl) (by kernel_rfl) (by kernel_rfl) (by kernel_rfl)) ?_)
 obtain ⟨a4, b4, H⟩ := b1_out H
 refine EL.of (EO.callD 61 [.agg #[.int .i64 a23, .int .i32 a24]] _ 29 (by kernel_rfl) (by kernel_rfl) (by kernel_rfl) (instr_Right.calls b4 hS) ?_)
 rintro v w ⟨rfl, hS⟩
 refine EL.quick 1 [5, 12, 13, 30] [(5, .pointer (some ⟨a2, 0, none⟩)), (12, .int .i64 (mget a0 a1)), (13, .bool (mhas a0 a1)), (30, .bool (a4))] (by kernel_rfl) ?_
 by_cases a5 : a4 = true
 ·rw [if_pos a5] at H
  refine EL.keep [5, 12, 13, 30] [(5, .pointer (some ⟨a2, 0, none⟩)), (12, .int .i64 (mget a0 a1)), (13, .bool (mhas a0 a1)), (30, .bool (a4))] (by kernel_rfl) ?_
  refine EL.as' [(5, .pointer (some ⟨a2, 0, none⟩)), (12, .int .i64 (mget a0 a1)), (13, .bool (mhas a0 a1)), (30, .bool (true))] (by simp only [a5, Bool.not_true, Bool.not_false]) ?_
  refine EL.quick 3 [5, 12, 30, 33] [(5, .pointer (some ⟨a2, 0, none⟩)), (12, .int .i64 (mget a0 a1)), (30, .bool (true)), (33, .bool (!(mhas a0 a1)))] (by kernel_rfl) ?_
  by_cases a6 : (mhas a0 a1) = true
  ·rw [if_pos a6] at H
   refine EL.keep [5, 12, 30, 33] [(5, .pointer (some ⟨a2, 0, none⟩)), (12, .int .i64 (mget a0 a1)), (30, .bool (true)), (33, .bool (!(mhas a0 a1)))] (by kernel_rfl) ?_
   refine EL.as' [(5, .pointer (some ⟨a2, 0, none⟩)), (12, .int .i64 (mget a0 a1)), (30, .bool (true)), (33, .bool (false))] (by simp only [a6, Bool.not_true, Bool.not_false]) ?_
   refine EL.quick 1 [12, 30, 33, 34] [(12, .int .i64 (mget a0 a1)), (30, .bool (true)), (33, .bool (false)), (34, .pointer (some ⟨a2, 1, none⟩))] (by kernel_rfl) ?_
   refine EL.of (EO.Y (YO.loadBox hS 1 rfl 21 1 1 (.int .i32 a24) 35 (by kernel_rfl) (by kernel_rfl) (by kernel_rfl) (by kernel_rfl)) ?_)
   refine EL.quick 6 [10] [(10, .bool (decide ((IntKind.i64.wrap a24) < (mget a0 a1))))] (by kernel_rfl) ?_
   refine EL.done (by kernel_rfl) ?_
   refine EQ.code ?_
   refine EW.ret (by kernel_rfl) ?_
   obtain rfl := Option.some.inj H
   exact EQ.leave (.bool (decide ((IntKind.i64.wrap a24) < (mget a0 a1)))) (by kernel_rfl) ⟨_, rfl, rfl, (hS.re [] [0, 0] rfl (sub_self))⟩
  ·rw [if_neg a6] at H
   refine EL.keep [5, 12, 30, 33] [(5, .pointer (some ⟨a2, 0, none⟩)), (12, .int .i64 (mget a0 a1)), (30, .bool (true)), (33, .bool (!(mhas a0 a1)))] (by kernel_rfl) ?_
   refine EL.as' [(5, .pointer (some ⟨a2, 0, none⟩)), (12, .int .i64 (mget a0 a1)), (30, .bool (true)), (33, .bool (true))] (by simp only [(Bool.eq_false_iff.2 a6), Bool.not_true, Bool.not_false]) ?_
   refine EL.quick 8 [10] [(10, .bool (true))] (by kernel_rfl) ?_
   refine EL.done (by kernel_rfl) ?_
   refine EQ.code ?_
   refine EW.ret (by kernel_rfl) ?_
   obtain rfl := Option.some.inj H
   exact EQ.leave (.bool (true)) (by kernel_rfl) ⟨_, rfl, rfl, (hS.re [] [0, 0] rfl (sub_self))⟩
 ·rw [if_neg a5] at H
  refine EL.keep [5, 12, 13, 30] [(5, .pointer (some ⟨a2, 0, none⟩)), (12, .int .i64 (mget a0 a1)), (13, .bool (mhas a0 a1)), (30, .bool (a4))] (by kernel_rfl) ?_
  refine EL.as' [(5, .pointer (some ⟨a2, 0, none⟩)), (12, .int .i64 (mget a0 a1)), (13, .bool (mhas a0 a1)), (30, .bool (false))] (by simp only [(Bool.eq_false_iff.2 a5), Bool.not_true, Bool.not_false]) ?_
  refine EL.quick 11 [10] [(10, .bool (false))] (by kernel_rfl) ?_
  refine EL.done (by kernel_rfl) ?_
  refine EQ.code ?_
  refine EW.ret (by kernel_rfl) ?_
  obtain rfl := Option.some.inj H
  exact EQ.leave (.bool (false)) (by kernel_rfl) ⟨_, rfl, rfl, (hS.re [] [0, 0] rfl (sub_self))⟩

/-! ### confidant/ops.Pops: function 62 -/
def ops_Pops.f (K : Nat) (a0 : Int) : Option Int := b1 (ops_of.f K a0) fun (a1 : S113) => (some a1.f1)
set_option maxRecDepth 100000 in
theorem ops_Pops.calls {K : Nat} {a0 : Int} {a2 : Int} {B w : World} {os : List Ass} {rs : List Ro} (H : ops_Pops.f K a0 = some a2) (hS : St B w (os) (rs)) :
  Calls Try.prog 62 [.int .i64 a0].toArray w (fun en w' => ∃ v, en = .returned v ∧ v = .int .i64 a2 ∧ St B w' (os) (rs)) := by
 unfold ops_Pops.f at H
 refine calls_of_EW (args := [.int .i64 a0]) (c := Cd62) 6 Try.func62 (by kernel_rfl) (by kernel_rfl) (by kernel_rfl) ?_
 refine EW.seq (x := Cd62.l) (y := Cd62.r) (by kernel_rfl) ?_
 refine EW.region (id := 0) (ops := Cd62.l.ops) (by kernel_rfl) ?_
 refine EL.quick 1 [0] [(0, .int .i64 a0)] (by kernel_rfl) ?_
 refine EL.done (by kernel_rfl) ?_
 refine EQ.code ?_
 refine EW.seq (x := Cd62.r.l) (y := Cd62.r.r) (by kernel_rfl) ?_
 refine EW.region (id := 1) (ops := Cd62.r.l.ops) (by kernel_rfl) ?_
 refine EL.quick 1 [3] [(3, .int .i64 a0)] (by kernel_rfl) ?_
 obtain ⟨a1, a3, H⟩ := b1_out H
 refine EL.of (EO.callD 84 [.int .i64 a0] _ 4 (by kernel_rfl) (by kernel_rfl) (by kernel_rfl) (ops_of.calls a3 hS) ?_)
 rintro v w ⟨rfl, hS⟩
 refine EL.quick 2 [2] [(2, .int .i64 a1.f1)] (by kernel_rfl) ?_
 refine EL.done (by kernel_rfl) ?_
 refine EQ.code ?_
 refine EW.ret (by kernel_rfl) ?_
 obtain rfl := Option.some.inj H
 exact EQ.leave (.int .i64 a1.f1) (by kernel_rfl) ⟨_, rfl, rfl, (hS.re [] [] rfl (sub_self))⟩

/-! ### confidant/ops.Pushes: function 63 -/
def ops_Pushes.f (K : Nat) (a0 : Int) : Option Int := b1 (ops_of.f K a0) fun (a1 : S113) => (some a1.f2)
set_option maxRecDepth 100000 in
theorem ops_Pushes.calls {K : Nat} {a0 : Int} {a2 : Int} {B w : World} {os : List Ass} {rs : List Ro} (H : ops_Pushes.f K a0 = some a2) (hS : St B w (os) (rs)) :
  Calls Try.prog 63 [.int .i64 a0].toArray w (fun en w' => ∃ v, en = .returned v ∧ v = .int .i64 a2 ∧ St B w' (os) (rs)) := by
 unfold ops_Pushes.f at H
 refine calls_of_EW (args := [.int .i64 a0]) (c := Cd63) 6 Try.func63 (by kernel_rfl) (by kernel_rfl) (by kernel_rfl) ?_
 refine EW.seq (x := Cd63.l) (y := Cd63.r) (by kernel_rfl) ?_
 refine EW.region (id := 0) (ops := Cd63.l.ops) (by kernel_rfl) ?_
 refine EL.quick 1 [0] [(0, .int .i64 a0)] (by kernel_rfl) ?_
 refine EL.done (by kernel_rfl) ?_
 refine EQ.code ?_
 refine EW.seq (x := Cd63.r.l) (y := Cd63.r.r) (by kernel_rfl) ?_
 refine EW.region (id := 1) (ops := Cd63.r.l.ops) (by kernel_rfl) ?_
 refine EL.quick 1 [3] [(3, .int .i64 a0)] (by kernel_rfl) ?_
 obtain ⟨a1, a3, H⟩ := b1_out H
 refine EL.of (EO.callD 84 [.int .i64 a0] _ 4 (by kernel_rfl) (by kernel_rfl) (by kernel_rfl) (ops_of.calls a3 hS) ?_)
 rintro v w ⟨rfl, hS⟩
 refine EL.quick 2 [2] [(2, .int .i64 a1.f2)] (by kernel_rfl) ?_
 refine EL.done (by kernel_rfl) ?_
 refine EQ.code ?_
 refine EW.ret (by kernel_rfl) ?_
 obtain rfl := Option.some.inj H
 exact EQ.leave (.int .i64 a1.f2) (by kernel_rfl) ⟨_, rfl, rfl, (hS.re [] [] rfl (sub_self))⟩

/-! ### confidant/ops.Ends: function 85 -/
def ops_Ends.f (K : Nat) (a0 : Int) : Option Bool := if a0 = 25 then (some true) else (some (decide (a0 = 26)))
set_option maxRecDepth 100000 in
theorem ops_Ends.calls {K : Nat} {a0 : Int} {a2 : Bool} {B w : World} {os : List Ass} {rs : List Ro} (H : ops_Ends.f K a0 = some a2) (hS : St B w (os) (rs)) :
  Calls Try.prog 85 [.int .i64 a0].toArray w (fun en w' => ∃ v, en = .returned v ∧ v = .bool (a2) ∧ St B w' (os) (rs)) := by
 unfold ops_Ends.f at H
 refine calls_of_EW (args := [.int .i64 a0]) (c := Cd85) 9 Try.func85 (by kernel_rfl) (by kernel_rfl) (by kernel_rfl) ?_
 refine EW.seq (x := Cd85.l) (y := Cd85.r) (by kernel_rfl) ?_
 refine EW.region (id := 0) (ops := Cd85.l.ops) (by kernel_rfl) ?_
 refine EL.quick 1 [0] [(0, .int .i64 a0)] (by kernel_rfl) ?_
 refine EL.done (by kernel_rfl) ?_
 refine EQ.code ?_
 refine EW.seq (x := Cd85.r.l) (y := Cd85.r.r) (by kernel_rfl) ?_
 refine EW.region (id := 1) (ops := Cd85.r.l.ops) (by kernel_rfl) ?_
 refine EL.quick 3 [0, 5] [(0, .int .i64 a0), (5, .bool (decide (a0 = 25)))] (by kernel_rfl) ?_
 by_cases a1 : a0 = 25
 ·rw [if_pos a1] at H
  refine EL.keep [0, 5] [(0, .int .i64 a0), (5, .bool (decide (a0 = 25)))] (by kernel_rfl) ?_
  refine EL.as' [(0, .int .i64 a0), (5, .bool (true))] (by simp only [dec_t a1, Bool.not_true, Bool.not_false]) ?_
  refine EL.quick 4 [2] [(2, .bool (true))] (by kernel_rfl) ?_
  refine EL.done (by kernel_rfl) ?_
  refine EQ.code ?_
  refine EW.ret (by kernel_rfl) ?_
  obtain rfl := Option.some.inj H
  exact EQ.leave (.bool (true)) (by kernel_rfl) ⟨_, rfl, rfl, (hS.re [] [] rfl (sub_self))⟩
 ·rw [if_neg a1] at H
  refine EL.keep [0, 5] [(0, .int .i64 a0), (5, .bool (decide (a0 = 25)))] (by kernel_rfl) ?_
  refine EL.as' [(0, .int .i64 a0), (5, .bool (false))] (by simp only [dec_f a1, Bool.not_true, Bool.not_false]) ?_
  refine EL.quick 4 [2] [(2, .bool (decide (a0 = 26)))] (by kernel_rfl) ?_
  refine EL.done (by kernel_rfl) ?_
  refine EQ.code ?_
  refine EW.ret (by kernel_rfl) ?_
  obtain rfl := Option.some.inj H
  exact EQ.leave (.bool (decide (a0 = 26))) (by kernel_rfl) ⟨_, rfl, rfl, (hS.re [] [] rfl (sub_self))⟩

/-! ### confidant/verify.next: function 64 -/
def verify_next.f (K : Nat) (a1 : List S32) (a0 : Int) : Option (List Int) := if 0 ≤ a0 then (if a0 < (a1.length : Int) then (lt (fun (a4 : List Int) => (lt (fun (b8 : Bool) => (if b8 = true then (lt ([IntKind.i64.wrap ((a1.getD a0.toNat zS32).f1)] : List Int) fun b4 => (if (a4.length + b4.length) * 8 ≤ 140737488355328 then (lt (a4 ++ b4) fun a9 => (some a9)) else none)) else (some a4))) fun c7 => (if ((a1.getD a0.toNat zS32).f0) = 10 then (c7 true) else (c7 (decide (((a1.getD a0.toNat zS32).f0) = 11)))))) fun c5 => (lt (fun (b7 : Bool) => (if b7 = true then (lt ([IntKind.i64.wrap (a0 + 1)] : List Int) fun b3 => (if (([] : List Int).length + b3.length) * 8 ≤ 140737488355328 then (lt (([] : List Int) ++ b3) fun a8 => (c5 a8)) else none)) else (c5 ([] : List Int)))) fun c6 => (b1 (ops_Ends.f K ((a1.getD a0.toNat zS32).f0)) fun (b5 : Bool) => (if b5 = true then (c6 false) else (c6 (!(decide (((a1.getD a0.toNat zS32).f0) = 10)))))))) else none) else none
set_option maxRecDepth 100000 in
theorem verify_next.calls {K : Nat} {a1 : List S32} {a0 : Int} {a7 : Option Addr} {a2 : Nat} {b6 : List Int} {B w : World} {os : List Ass} {rs : List Ro} (H : verify_next.f K a1 a0 = some b6) (hS : St B w (os) (Ro.sl kS32 a7 a2 a1 :: rs)) :
  Calls Try.prog 64 [.slice a7 a1.length a2, .int .i64 a0].toArray w (fun en w' => ∃ v, en = .returned v ∧ ∃ d0 : Option Addr, ∃ d1 : Nat, v = .slice d0 b6.length d1 ∧ St B w' (Ass.own 3 (Kd.int .i64) d0 d1 b6 :: os) (Ro.sl kS32 a7 a2 a1 :: rs)) := by
 unfold verify_next.f at H
 refine calls_of_EW (args := [.slice a7 a1.length a2, .int .i64 a0]) (c := Cd64) 40 Try.func64 (by kernel_rfl) (by kernel_rfl) (by kernel_rfl) ?_
 refine EW.seq (x := Cd64.l) (y := Cd64.r) (by kernel_rfl) ?_
 refine EW.region (id := 0) (ops := Cd64.l.ops) (by kernel_rfl) ?_
 refine EL.quick 1 [0, 1] [(0, .slice a7 a1.length a2), (1, .int .i64 a0)] (by kernel_rfl) ?_
 refine EL.done (by kernel_rfl) ?_
 refine EQ.code ?_
 refine EW.seq (x := Cd64.r.l) (y := Cd64.r.r) (by kernel_rfl) ?_
 refine EW.region (id := 1) (ops := Cd64.r.l.ops) (by kernel_rfl) ?_
 refine EL.quick 1 [0, 1, 5] [(0, .slice a7 a1.length a2), (1, .int .i64 a0), (5, .slice none ([] : List Int).length 0)] (by kernel_rfl) ?_
 refine EL.done (by kernel_rfl) ?_
 refine EQ.code ?_
 refine EW.seq (x := Cd64.r.r.l) (y := Cd64.r.r.r) (by kernel_rfl) ?_
 refine EW.region (id := 2) (ops := Cd64.r.r.l.ops) (by kernel_rfl) ?_
 refine EL.quick 2 [0, 1, 5, 7, 8] [(0, .slice a7 a1.length a2), (1, .int .i64 a0), (5, .slice none ([] : List Int).length 0), (7, .slice a7 a1.length a2), (8, .int .i64 a0)] (by kernel_rfl) ?_
 obtain ⟨c1, H⟩ := ite_in H
 obtain ⟨c2, H⟩ := ite_in H
 obtain ⟨a3, rfl⟩ := St.rd_some hS (Rd.ro 0 rfl) c1 c2
 refine EL.of (EO.Y (YO.idx 29 2 a3 a1.length a2 .i64 a0 9 (by kernel_rfl) (by kernel_rfl) (by kernel_rfl) (by kernel_rfl) c1 c2) ?_)
 refine EL.quick 1 [0, 1, 5, 10] [(0, .slice (some a3) a1.length a2), (1, .int .i64 a0), (5, .slice none ([] : List Int).length 0), (10, .pointer (some ((a3.add (a0.toNat * 2)).add 0)))] (by kernel_rfl) ?_
 refine EL.of (EO.Y (YO.loadEl hS kS32 a3 a2 a1 (Rd.ro 0 rfl) zS32 encS32 encS32_of a0 c1 c2 3 2 0 1 rfl (.int .i64 ((a1.getD a0.toNat zS32).f0)) 11 (by kernel_rfl) (by kernel_rfl) (by kernel_rfl) (by kernel_rfl)) ?_)
 refine EL.quick 1 [0, 1, 5, 6] [(0, .slice (some a3) a1.length a2), (1, .int .i64 a0), (5, .slice none ([] : List Int).length 0), (6, .int .i64 ((a1.getD a0.toNat zS32).f0))] (by kernel_rfl) ?_
 refine EL.done (by kernel_rfl) ?_
 refine EQ.code ?_
 obtain ⟨c5, d9, H⟩ := lt_out H
 refine EW.cut (x := Cd64.r.r.r.l) (y := Cd64.r.r.r.r) (fun a w => ∃ a4 : List Int, ∃ a5 : Option Addr, ∃ a6 : Nat, Sat 40 [(0, .slice (some a3) a1.length a2), (1, .int .i64 a0), (5, .slice a5 a4.length a6), (6, .int .i64 ((a1.getD a0.toNat zS32).f0))] a ∧ St B w (Ass.own 3 (Kd.int .i64) a5 a6 a4 :: os) (Ro.sl kS32 (some a3) a2 a1 :: rs) ∧ c5 a4 = some b6) (by kernel_rfl) ?_ (fun a w hI => ?_)
 ·obtain ⟨c6, e0, H⟩ := lt_out H
  refine EW.cut (x := Cd64.r.r.r.l.l) (y := Cd64.r.r.r.l.r) (fun a w => ∃ b7 : Bool, Sat 40 [(0, .slice (some a3) a1.length a2), (1, .int .i64 a0), (5, .slice none ([] : List Int).length 0), (6, .int .i64 ((a1.getD a0.toNat zS32).f0)), (18, .bool (b7))] a ∧ St B w (os) (Ro.sl kS32 (some a3) a2 a1 :: rs) ∧ c6 b7 = some b6) (by kernel_rfl) ?_ (fun a w hI => ?_)
  ·refine EW.region (id := 3) (ops := Cd64.r.r.r.l.l.ops) (by kernel_rfl) ?_
   refine EL.quick 1 [0, 1, 5, 6, 12] [(0, .slice (some a3) a1.length a2), (1, .int .i64 a0), (5, .slice none ([] : List Int).length 0), (6, .int .i64 ((a1.getD a0.toNat zS32).f0)), (12, .int .i64 ((a1.getD a0.toNat zS32).f0))] (by kernel_rfl) ?_
   obtain ⟨b5, d8, H⟩ := b1_out H
   refine EL.of (EO.callD 85 [.int .i64 ((a1.getD a0.toNat zS32).f0)] _ 13 (by kernel_rfl) (by kernel_rfl) (by kernel_rfl) (ops_Ends.calls d8 hS) ?_)
   rintro v w ⟨rfl, hS⟩
   refine EL.quick 2 [0, 1, 5, 6, 15] [(0, .slice (some a3) a1.length a2), (1, .int .i64 a0), (5, .slice none ([] : List Int).length 0), (6, .int .i64 ((a1.getD a0.toNat zS32).f0)), (15, .bool (!(b5)))] (by kernel_rfl) ?_
   by_cases c3 : b5 = true
   ·rw [if_pos c3] at H
    refine EL.keep [0, 1, 5, 6, 15] [(0, .slice (some a3) a1.length a2), (1, .int .i64 a0), (5, .slice none ([] : List Int).length 0), (6, .int .i64 ((a1.getD a0.toNat zS32).f0)), (15, .bool (!(b5)))] (by kernel_rfl) ?_
    refine EL.as' [(0, .slice (some a3) a1.length a2), (1, .int .i64 a0), (5, .slice none ([] : List Int).length 0), (6, .int .i64 ((a1.getD a0.toNat zS32).f0)), (15, .bool (false))] (by simp only [c3, Bool.not_true, Bool.not_false]) ?_
    refine EL.quick 3 [0, 1, 5, 6, 18] [(0, .slice (some a3) a1.length a2), (1, .int .i64 a0), (5, .slice none ([] : List Int).length 0), (6, .int .i64 ((a1.getD a0.toNat zS32).f0)), (18, .bool (false))] (by kernel_rfl) ?_
    refine EL.done (by kernel_rfl) ?_
    refine EQ.to ?_
    refine EQ.keep [0, 1, 5, 6, 18] [(0, .slice (some a3) a1.length a2), (1, .int .i64 a0), (5, .slice none ([] : List Int).length 0), (6, .int .i64 ((a1.getD a0.toNat zS32).f0)), (18, .bool (false))] (by kernel_rfl) ?_
    exact fun a ha => ⟨false, ha, (hS.re [] [] rfl (sub_cons 0 rfl (sub_tail (sub_self)))), H⟩
   ·rw [if_neg c3] at H
    refine EL.keep [0, 1, 5, 6, 15] [(0, .slice (some a3) a1.length a2), (1, .int .i64 a0), (5, .slice none ([] : List Int).length 0), (6, .int .i64 ((a1.getD a0.toNat zS32).f0)), (15, .bool (!(b5)))] (by kernel_rfl) ?_
    refine EL.as' [(0, .slice (some a3) a1.length a2), (1, .int .i64 a0), (5, .slice none ([] : List Int).length 0), (6, .int .i64 ((a1.getD a0.toNat zS32).f0)), (15, .bool (true))] (by simp only [(Bool.eq_false_iff.2 c3), Bool.not_true, Bool.not_false]) ?_
    refine EL.quick 3 [0, 1, 5, 6, 18] [(0, .slice (some a3) a1.length a2), (1, .int .i64 a0), (5, .slice none ([] : List Int).length 0), (6, .int .i64 ((a1.getD a0.toNat zS32).f0)), (18, .bool (!(decide (((a1.getD a0.toNat zS32).f0) = 10))))] (by kernel_rfl) ?_
    refine EL.done (by kernel_rfl) ?_
    refine EQ.to ?_
    refine EQ.keep [0, 1, 5, 6, 18] [(0, .slice (some a3) a1.length a2), (1, .int .i64 a0), (5, .slice none ([] : List Int).length 0), (6, .int .i64 ((a1.getD a0.toNat zS32).f0)), (18, .bool (!(decide (((a1.getD a0.toNat zS32).f0) = 10))))] (by kernel_rfl) ?_
    exact fun a ha => ⟨!(decide (((a1.getD a0.toNat zS32).f0) = 10)), ha, (hS.re [] [] rfl (sub_cons 0 rfl (sub_tail (sub_self)))), H⟩
  ·obtain ⟨b7, ha, hS, H⟩ := hI
   rw [e0] at H
   (try dsimp only at H)
   refine EW.at ?_ a ha
   clear ha a
   refine EW.condP' (o := (.tmp 18)) (x := Cd64.r.r.r.l.r.l) (y := Cd64.r.r.r.l.r.r) (b7) (by kernel_rfl) (by kernel_rfl) (fun c8 => ?_) (fun c8 => ?_)
   ·rw [if_pos c8] at H
    refine EW.region (id := 4) (ops := Cd64.r.r.r.l.r.l.ops) (by kernel_rfl) ?_
    refine EL.quick 3 [0, 1, 6, 19, 21] [(0, .slice (some a3) a1.length a2), (1, .int .i64 a0), (6, .int .i64 ((a1.getD a0.toNat zS32).f0)), (19, .slice none ([] : List Int).length 0), (21, .int .i64 (IntKind.i64.wrap (a0 + 1)))] (by kernel_rfl) ?_
    obtain ⟨b3, d4, H⟩ := lt_out H
    refine EL.of (EO.lit hS (Kd.int .i64) 3 39 1 #[(0, .int .i64 (IntKind.i64.wrap (a0 + 1)))] [.int .i64 (IntKind.i64.wrap (a0 + 1))] b3 22 (by kernel_rfl) (by kernel_rfl) (by kernel_rfl) (fun _ => (by kernel_rfl)) (by rw [d4]; rfl) (by kernel_rfl) (fun w G hr => (by rw [d4]; exact ⟨[.int .i64 (IntKind.i64.wrap (a0 + 1))], [], rfl, rfl, rfl⟩)) ?_)
    intro d2 w hS
    have hS := St.nilO hS 3 (Kd.int .i64)
    obtain ⟨d6, H⟩ := ite_in H
    obtain ⟨a8, e2, H⟩ := lt_out H
    refine EL.of (EO.append hS 39 39 3 8 0 (Kd.int .i64) none 0 ([] : List Int) rfl (some ⟨d2, 0, none⟩) 1 b3 (Rd.own 1 3 rfl) a8 e2 (fun b9 c0 => Ass.own 3 (Kd.int .i64) b9 c0 a8 :: Ass.own 3 (Kd.int .i64) (some ⟨d2, 0, none⟩) 1 b3 :: os) 23 (by kernel_rfl) (by kernel_rfl) (by kernel_rfl) (by kernel_rfl) d6 (fun _ _ => rfl) ?_)
    intro b9 c0 w hS
    refine EL.quick 1 [0, 1, 5, 6] [(0, .slice (some a3) a1.length a2), (1, .int .i64 a0), (5, .slice b9 a8.length c0), (6, .int .i64 ((a1.getD a0.toNat zS32).f0))] (by kernel_rfl) ?_
    refine EL.done (by kernel_rfl) ?_
    refine EQ.to ?_
    refine EQ.keep [0, 1, 5, 6] [(0, .slice (some a3) a1.length a2), (1, .int .i64 a0), (5, .slice b9 a8.length c0), (6, .int .i64 ((a1.getD a0.toNat zS32).f0))] (by kernel_rfl) ?_
    exact fun a ha => ⟨a8, b9, c0, ha, (hS.re [0] [1] rfl (sub_cons 0 rfl (sub_tail (sub_self)))), H⟩
   ·rw [if_neg c8] at H
    refine EW.skip (by kernel_rfl) ?_
    refine EQ.to ?_
    have hS := St.nilO hS 3 (Kd.int .i64)
    refine EQ.keep [0, 1, 5, 6] [(0, .slice (some a3) a1.length a2), (1, .int .i64 a0), (5, .slice none ([] : List Int).length 0), (6, .int .i64 ((a1.getD a0.toNat zS32).f0))] (by kernel_rfl) ?_
    exact fun a ha => ⟨([] : List Int), none, 0, ha, (hS.re [0] [] rfl (sub_cons 0 rfl (sub_tail (sub_self)))), H⟩
 ·obtain ⟨a4, a5, a6, ha, hS, H⟩ := hI
  rw [d9] at H
  (try dsimp only at H)
  refine EW.at ?_ a ha
  clear ha a
  refine EW.seq (x := Cd64.r.r.r.r.l) (y := Cd64.r.r.r.r.r) (by kernel_rfl) ?_
  obtain ⟨c7, e1, H⟩ := lt_out H
  refine EW.cut (x := Cd64.r.r.r.r.l.l) (y := Cd64.r.r.r.r.l.r) (fun a w => ∃ b8 : Bool, Sat 40 [(0, .slice (some a3) a1.length a2), (1, .int .i64 a0), (5, .slice a5 a4.length a6), (29, .bool (b8))] a ∧ St B w (Ass.own 3 (Kd.int .i64) a5 a6 a4 :: os) (Ro.sl kS32 (some a3) a2 a1 :: rs) ∧ c7 b8 = some b6) (by kernel_rfl) ?_ (fun a w hI => ?_)
  ·refine EW.region (id := 5) (ops := Cd64.r.r.r.r.l.l.ops) (by kernel_rfl) ?_
   refine EL.quick 3 [0, 1, 5, 6, 26] [(0, .slice (some a3) a1.length a2), (1, .int .i64 a0), (5, .slice a5 a4.length a6), (6, .int .i64 ((a1.getD a0.toNat zS32).f0)), (26, .bool (decide (((a1.getD a0.toNat zS32).f0) = 10)))] (by kernel_rfl) ?_
   by_cases c4 : ((a1.getD a0.toNat zS32).f0) = 10
   ·rw [if_pos c4] at H
    refine EL.keep [0, 1, 5, 6, 26] [(0, .slice (some a3) a1.length a2), (1, .int .i64 a0), (5, .slice a5 a4.length a6), (6, .int .i64 ((a1.getD a0.toNat zS32).f0)), (26, .bool (decide (((a1.getD a0.toNat zS32).f0) = 10)))] (by kernel_rfl) ?_
    refine EL.as' [(0, .slice (some a3) a1.length a2), (1, .int .i64 a0), (5, .slice a5 a4.length a6), (6, .int .i64 ((a1.getD a0.toNat zS32).f0)), (26, .bool (true))] (by simp only [dec_t c4, Bool.not_true, Bool.not_false]) ?_
    refine EL.quick 3 [0, 1, 5, 29] [(0, .slice (some a3) a1.length a2), (1, .int .i64 a0), (5, .slice a5 a4.length a6), (29, .bool (true))] (by kernel_rfl) ?_
    refine EL.done (by kernel_rfl) ?_
    refine EQ.to ?_
    refine EQ.keep [0, 1, 5, 29] [(0, .slice (some a3) a1.length a2), (1, .int .i64 a0), (5, .slice a5 a4.length a6), (29, .bool (true))] (by kernel_rfl) ?_
    exact fun a ha => ⟨true, ha, (hS.re [0] [] rfl (sub_cons 0 rfl (sub_tail (sub_self)))), H⟩
   ·rw [if_neg c4] at H
    refine EL.keep [0, 1, 5, 6, 26] [(0, .slice (some a3) a1.length a2), (1, .int .i64 a0), (5, .slice a5 a4.length a6), (6, .int .i64 ((a1.getD a0.toNat zS32).f0)), (26, .bool (decide (((a1.getD a0.toNat zS32).f0) = 10)))] (by kernel_rfl) ?_
    refine EL.as' [(0, .slice (some a3) a1.length a2), (1, .int .i64 a0), (5, .slice a5 a4.length a6), (6, .int .i64 ((a1.getD a0.toNat zS32).f0)), (26, .bool (false))] (by simp only [dec_f c4, Bool.not_true, Bool.not_false]) ?_
    refine EL.quick 3 [0, 1, 5, 29] [(0, .slice (some a3) a1.length a2), (1, .int .i64 a0), (5, .slice a5 a4.length a6), (29, .bool (decide (((a1.getD a0.toNat zS32).f0) = 11)))] (by kernel_rfl) ?_
    refine EL.done (by kernel_rfl) ?_
    refine EQ.to ?_
    refine EQ.keep [0, 1, 5, 29] [(0, .slice (some a3) a1.length a2), (1, .int .i64 a0), (5, .slice a5 a4.length a6), (29, .bool (decide (((a1.getD a0.toNat zS32).f0) = 11)))] (by kernel_rfl) ?_
    exact fun a ha => ⟨decide (((a1.getD a0.toNat zS32).f0) = 11), ha, (hS.re [0] [] rfl (sub_cons 0 rfl (sub_tail (sub_self)))), H⟩
  ·obtain ⟨b8, ha, hS, H⟩ := hI
   rw [e1] at H
   (try dsimp only at H)
   refine EW.at ?_ a ha
   clear ha a
   refine EW.condP' (o := (.tmp 29)) (x := Cd64.r.r.r.r.l.r.l) (y := Cd64.r.r.r.r.l.r.r) (b8) (by kernel_rfl) (by kernel_rfl) (fun c9 => ?_) (fun c9 => ?_)
   ·rw [if_pos c9] at H
    refine EW.region (id := 6) (ops := Cd64.r.r.r.r.l.r.l.ops) (by kernel_rfl) ?_
    refine EL.quick 3 [30, 31, 32] [(30, .slice a5 a4.length a6), (31, .slice (some a3) a1.length a2), (32, .int .i64 a0)] (by kernel_rfl) ?_
    refine EL.of (EO.Y (YO.idx 29 2 a3 a1.length a2 .i64 a0 33 (by kernel_rfl) (by kernel_rfl) (by kernel_rfl) (by kernel_rfl) c1 c2) ?_)
    refine EL.quick 1 [30, 34] [(30, .slice a5 a4.length a6), (34, .pointer (some ((a3.add (a0.toNat * 2)).add 1)))] (by kernel_rfl) ?_
    refine EL.of (EO.Y (YO.loadEl hS kS32 a3 a2 a1 (Rd.ro 0 rfl) zS32 encS32 encS32_of a0 c1 c2 21 2 1 1 rfl (.int .i32 ((a1.getD a0.toNat zS32).f1)) 35 (by kernel_rfl) (by kernel_rfl) (by kernel_rfl) (by kernel_rfl)) ?_)
    refine EL.quick 1 [30, 36] [(30, .slice a5 a4.length a6), (36, .int .i64 (IntKind.i64.wrap ((a1.getD a0.toNat zS32).f1)))] (by kernel_rfl) ?_
    obtain ⟨b4, d5, H⟩ := lt_out H
    refine EL.of (EO.lit hS (Kd.int .i64) 3 39 1 #[(0, .int .i64 (IntKind.i64.wrap ((a1.getD a0.toNat zS32).f1)))] [.int .i64 (IntKind.i64.wrap ((a1.getD a0.toNat zS32).f1))] b4 37 (by kernel_rfl) (by kernel_rfl) (by kernel_rfl) (fun _ => (by kernel_rfl)) (by rw [d5]; rfl) (by kernel_rfl) (fun w G hr => (by rw [d5]; exact ⟨[.int .i64 (IntKind.i64.wrap ((a1.getD a0.toNat zS32).f1))], [], rfl, rfl, rfl⟩)) ?_)
    intro d3 w hS
    obtain ⟨d7, H⟩ := ite_in H
    obtain ⟨a9, e3, H⟩ := lt_out H
    refine EL.of (EO.append hS 39 39 3 8 1 (Kd.int .i64) a5 a6 a4 rfl (some ⟨d3, 0, none⟩) 1 b4 (Rd.own 0 3 rfl) a9 e3 (fun b0 b2 => Ass.own 3 (Kd.int .i64) (some ⟨d3, 0, none⟩) 1 b4 :: Ass.own 3 (Kd.int .i64) b0 b2 a9 :: os) 38 (by kernel_rfl) (by kernel_rfl) (by kernel_rfl) (by kernel_rfl) d7 (fun _ _ => rfl) ?_)
    intro b0 b2 w hS
    refine EL.quick 1 [5] [(5, .slice b0 a9.length b2)] (by kernel_rfl) ?_
    refine EL.done (by kernel_rfl) ?_
    refine EQ.code ?_
    refine EW.seq (x := Cd64.r.r.r.r.r.l) (y := Cd64.r.r.r.r.r.r) (by kernel_rfl) ?_
    refine EW.region (id := 7) (ops := Cd64.r.r.r.r.r.l.ops) (by kernel_rfl) ?_
    refine EL.quick 2 [4] [(4, .slice b0 a9.length b2)] (by kernel_rfl) ?_
    refine EL.done (by kernel_rfl) ?_
    refine EQ.code ?_
    refine EW.ret (by kernel_rfl) ?_
    obtain rfl := Option.some.inj H
    exact EQ.leave (.slice b0 a9.length b2) (by kernel_rfl) ⟨_, rfl, b0, b2, rfl, (hS.re [1] [1] rfl (sub_self))⟩
   ·rw [if_neg c9] at H
    refine EW.skip (by kernel_rfl) ?_
    refine EQ.code ?_
    refine EW.seq (x := Cd64.r.r.r.r.r.l) (y := Cd64.r.r.r.r.r.r) (by kernel_rfl) ?_
    refine EW.region (id := 7) (ops := Cd64.r.r.r.r.r.l.ops) (by kernel_rfl) ?_
    refine EL.quick 2 [4] [(4, .slice a5 a4.length a6)] (by kernel_rfl) ?_
    refine EL.done (by kernel_rfl) ?_
    refine EQ.code ?_
    refine EW.ret (by kernel_rfl) ?_
    obtain rfl := Option.some.inj H
    exact EQ.leave (.slice a5 a4.length a6) (by kernel_rfl) ⟨_, rfl, a5, a6, rfl, (hS.re [0] [] rfl (sub_self))⟩

/-! ### confidant/verify.walk: function 43 -/
def verify_walk.l2 (K : Nat) (a3 : List Int) (a1 : List S32) (a0 : List Int) (b0 : Int) (b4 : Int) (f5 : (List Int) → (List Int) → Int → Option (List Int × Int)) : Nat → (List Int) → (List Int) → Int → Int → Option (List Int × Int)
 | 0, _, _, _, _ => none
 | n + 1, b9, a7, c0, a6 => if a6 < (a3.length : Int) then (lt (fun (e7 : List Int) (e8 : List Int) (f8 : Int) => (verify_walk.l2 K a3 a1 a0 b0 b4 f5 n e7 e8 f8 (IntKind.i64.wrap (a6 + 1)))) fun i5 => (if 0 ≤ a6 then (if (a3.getD a6.toNat 0) ≥ (a1.length : Int) then (i5 b9 a7 (mn c0 (a0.getD (0 : Int).toNat 0))) else (if 0 ≤ (a3.getD a6.toNat 0) then (if (a3.getD a6.toNat 0) < (a7.length : Int) then (if (a7.getD (a3.getD a6.toNat 0).toNat 0) < 0 then (lt (a7.set (a3.getD a6.toNat 0).toNat (IntKind.i64.wrap (b0 + b4))) fun e2 => (lt ([(a3.getD a6.toNat 0)] : List Int) fun i7 => (if (b9.length + i7.length) * 8 ≤ 140737488355328 then (lt (b9 ++ i7) fun g5 => (i5 g5 e2 c0)) else none))) else (if (a7.getD (a3.getD a6.toNat 0).toNat 0) = (IntKind.i64.wrap (b0 + b4)) then (i5 b9 a7 c0) else (i5 b9 a7 (mn c0 (a3.getD a6.toNat 0))))) else none) else none)) else none)) else (f5 b9 a7 c0)
def verify_walk.l1 (K : Nat) (a1 : List S32) (g4 : (List Int) → (List Int) → Int → Option (List Int × Int)) : Nat → (List Int) → (List Int) → Int → Option (List Int × Int)
 | 0, _, _, _ => none
 | n + 1, a0, a4, b3 => if (a0.length : Int) > 0 then (lt (fun (e3 : List Int) (e0 : List Int) (e6 : Int) => (if (1 : Int) ≤ (e3.length : Int) then (lt (e3.drop 1) fun g6 => (verify_walk.l1 K a1 g4 n g6 e0 e6)) else none)) fun f5 => (if (0 : Int) < (a0.length : Int) then (if 0 ≤ (a0.getD (0 : Int).toNat 0) then (if (a0.getD (0 : Int).toNat 0) < (a4.length : Int) then (if (a0.getD (0 : Int).toNat 0) < (a1.length : Int) then (b1 (ops_Pops.f K ((a1.getD (a0.getD (0 : Int).toNat 0).toNat zS32).f0)) fun (b8 : Int) => (lt (fun (b0 : Int) (i8 : Bool) => (if i8 = true then (f5 a0 a4 (mn b3 (a0.getD (0 : Int).toNat 0))) else (b1 (ops_Pushes.f K ((a1.getD (a0.getD (0 : Int).toNat 0).toNat zS32).f0)) fun (b4 : Int) => (b1 (verify_next.f K a1 (a0.getD (0 : Int).toNat 0)) fun (a3 : List Int) => (verify_walk.l2 K a3 a1 a0 b0 b4 f5 K a0 a4 b3 0))))) fun j9 => (if (IntKind.i64.wrap ((a4.getD (a0.getD (0 : Int).toNat 0).toNat 0) - b8)) < 0 then (lt (IntKind.i64.wrap ((a4.getD (a0.getD (0 : Int).toNat 0).toNat 0) - b8)) fun j6 => (j9 j6 true)) else (b1 (ops_Pushes.f K ((a1.getD (a0.getD (0 : Int).toNat 0).toNat zS32).f0)) fun (d0 : Int) => (lt (IntKind.i64.wrap ((a4.getD (a0.getD (0 : Int).toNat 0).toNat 0) - b8)) fun i9 => (lt (IntKind.i64.wrap ((IntKind.i64.wrap ((a4.getD (a0.getD (0 : Int).toNat 0).toNat 0) - b8)) + d0)) fun o5 => (j9 i9 (decide ((IntKind.i64.wrap ((IntKind.i64.wrap ((a4.getD (a0.getD (0 : Int).toNat 0).toNat 0) - b8)) + d0)) > 32))))))))) else none) else none) else none) else none)) else (g4 a0 a4 b3)
def verify_walk.l0 (K : Nat) (c5 : List Int) (g3 : (List Int) → Option (List Int × Int)) : Nat → (List Int) → Int → Option (List Int × Int)
 | 0, _, _ => none
 | n + 1, c9, c6 => if c6 < (c5.length : Int) then (if 0 ≤ c6 then (if c6 < (c9.length : Int) then (lt (c9.set c6.toNat (-1)) fun f6 => (verify_walk.l0 K c5 g3 n f6 (IntKind.i64.wrap (c6 + 1)))) else none) else none) else (g3 c9)
def verify_walk.f (K : Nat) (a1 : List S32) : Option (List Int × Int) := if 0 ≤ (a1.length : Int) then (if (8 : Int) * (a1.length : Int) ≤ 140737488355328 then (lt (List.replicate (a1.length : Int).toNat 0 : List Int) fun c5 => (lt (fun (d4 : List Int) => (if (0 : Int) < (d4.length : Int) then (lt (d4.set (0 : Int).toNat 0) fun f7 => (lt (fun (j5 : List Int) (d2 : List Int) (d9 : Int) => (lt (fun (g7 : Int) => (some (d2, g7))) fun m0 => (if d9 = (a1.length : Int) then (m0 (-1)) else (m0 d9)))) fun g4 => (lt ([0] : List Int) fun i6 => (verify_walk.l1 K a1 g4 K i6 f7 (a1.length : Int))))) else none)) fun g3 => (verify_walk.l0 K c5 g3 K c5 0))) else none) else none
set_option maxRecDepth 100000 in
theorem verify_walk.calls {K : Nat} {a1 : List S32} {b2 : Option Addr} {a2 : Nat} {d7 : List Int} {d8 : Int} {B w : World} {os : List Ass} {rs : List Ro} (H : verify_walk.f K a1 = some (d7, d8)) (hS : St B w (os) (Ro.sl kS32 b2 a2 a1 :: rs)) :
  Calls Try.prog 43 [.slice b2 a1.length a2].toArray w (fun en w' => ∃ v, en = .returned v ∧ ∃ n7 : Option Addr, ∃ n8 : Nat, v = .tuple #[.slice n7 d7.length n8, .int .i64 d8] ∧ St B w' (Ass.own 3 (Kd.int .i64) n7 n8 d7 :: os) (Ro.sl kS32 b2 a2 a1 :: rs)) := by
 unfold verify_walk.f at H
 refine calls_of_EW (args := [.slice b2 a1.length a2]) (c := Cd43) 119 Try.func43 (by kernel_rfl) (by kernel_rfl) (by kernel_rfl) ?_
 refine EW.seq (x := Cd43.l) (y := Cd43.r) (by kernel_rfl) ?_
 refine EW.region (id := 0) (ops := Cd43.l.ops) (by kernel_rfl) ?_
 refine EL.quick 2 [0] [(0, .slice b2 a1.length a2)] (by kernel_rfl) ?_
 refine EL.done (by kernel_rfl) ?_
 refine EQ.code ?_
 refine EW.seq (x := Cd43.r.l) (y := Cd43.r.r) (by kernel_rfl) ?_
 refine EW.region (id := 1) (ops := Cd43.r.l.ops) (by kernel_rfl) ?_
 refine EL.quick 2 [0, 13] [(0, .slice b2 a1.length a2), (13, .int .i64 (a1.length : Int))] (by kernel_rfl) ?_
 obtain ⟨o6, H⟩ := ite_in H
 obtain ⟨o7, H⟩ := ite_in H
 obtain ⟨c5, p9, H⟩ := lt_out H
 refine EL.of (EO.make hS (Kd.int .i64) 3 39 8 .i64 .i64 (a1.length : Int) 0 [.int .i64 0] c5 p9 14 (by kernel_rfl) (by kernel_rfl) (by kernel_rfl) (by kernel_rfl) (by kernel_rfl) o6 o7 (fun w G => rfl) ?_)
 intro j7 w hS
 refine EL.quick 1 [0, 4] [(0, .slice b2 a1.length a2), (4, .slice (some ⟨j7, 0, none⟩) c5.length ((a1.length : Int).toNat))] (by kernel_rfl) ?_
 refine EL.done (by kernel_rfl) ?_
 refine EQ.code ?_
 obtain ⟨g3, p3, H⟩ := lt_out H
 refine EW.cut (x := Cd43.r.r.l) (y := Cd43.r.r.r) (fun a w => ∃ d4 : List Int, ∃ g8 : Option Addr, ∃ d1 : Nat, Sat 119 [(0, .slice b2 a1.length a2), (4, .slice g8 d4.length d1)] a ∧ St B w (Ass.own 3 (Kd.int .i64) g8 d1 d4 :: os) (Ro.sl kS32 b2 a2 a1 :: rs) ∧ g3 d4 = some (d7, d8)) (by kernel_rfl) ?_ (fun a w hI => ?_)
 ·refine EW.seq (x := Cd43.r.r.l.l) (y := Cd43.r.r.l.r) (by kernel_rfl) ?_
  refine EW.region (id := 2) (ops := Cd43.r.r.l.l.ops) (by kernel_rfl) ?_
  refine EL.quick 3 [0, 4, 16, 17] [(0, .slice b2 a1.length a2), (4, .slice (some ⟨j7, 0, none⟩) c5.length ((a1.length : Int).toNat)), (16, .int .i64 (c5.length : Int)), (17, .int .i64 0)] (by kernel_rfl) ?_
  refine EL.done (by kernel_rfl) ?_
  refine EQ.code ?_
  refine EW.block (x := Cd43.r.r.l.r.l) (id := 0) (by kernel_rfl) ?_
  refine EW.loop (x := Cd43.r.r.l.r.l.l) (fun n a w => ∃ c9 : List Int, ∃ c6 : Int, ∃ e4 : Option Addr, ∃ c8 : Nat, Sat 119 [(0, .slice b2 a1.length a2), (4, .slice e4 c9.length c8), (16, .int .i64 (c5.length : Int)), (17, .int .i64 c6)] a ∧ St B w (Ass.own 3 (Kd.int .i64) e4 c8 c9 :: os) (Ro.sl kS32 b2 a2 a1 :: rs) ∧ verify_walk.l0 K c5 g3 n c9 c6 = some (d7, d8)) K (by kernel_rfl) ?_ (fun n a w hI => ?_)
  ·refine EQ.keep [0, 4, 16, 17] [(0, .slice b2 a1.length a2), (4, .slice (some ⟨j7, 0, none⟩) c5.length ((a1.length : Int).toNat)), (16, .int .i64 (c5.length : Int)), (17, .int .i64 0)] (by kernel_rfl) ?_
   exact fun a ha => ⟨c5, 0, (some ⟨j7, 0, none⟩), (a1.length : Int).toNat, ha, (hS.re [0] [] rfl (sub_cons 0 rfl (sub_tail (sub_self)))), H⟩
  ·obtain ⟨c9, c6, e4, c8, ha, hS, H⟩ := hI
   obtain _ | n := n
   ·simp [verify_walk.l0] at H
   rw [verify_walk.l0.eq_2] at H
   refine EW.at ?_ a ha
   clear ha a
   refine EW.seq (x := Cd43.r.r.l.r.l.l.l) (y := Cd43.r.r.l.r.l.l.r) (by kernel_rfl) ?_
   refine EW.region (id := 3) (ops := Cd43.r.r.l.r.l.l.l.ops) (by kernel_rfl) ?_
   refine EL.quick 1 [0, 4, 16, 17, 18] [(0, .slice b2 a1.length a2), (4, .slice e4 c9.length c8), (16, .int .i64 (c5.length : Int)), (17, .int .i64 c6), (18, .bool (decide (c6 < (c5.length : Int))))] (by kernel_rfl) ?_
   refine EL.done (by kernel_rfl) ?_
   refine EQ.code ?_
   refine EW.seq (x := Cd43.r.r.l.r.l.l.r.l) (y := Cd43.r.r.l.r.l.l.r.r) (by kernel_rfl) ?_
   refine EW.condP (o := (.tmp 18)) (x := Cd43.r.r.l.r.l.l.r.l.l) (y := Cd43.r.r.l.r.l.l.r.l.r) (c6 < (c5.length : Int)) (by kernel_rfl) (by kernel_rfl) (fun m4 => ?_) (fun m4 => ?_)
   ·rw [if_pos m4] at H
    refine EW.skip (by kernel_rfl) ?_
    refine EQ.code ?_
    refine EW.seq (x := Cd43.r.r.l.r.l.l.r.r.l) (y := Cd43.r.r.l.r.l.l.r.r.r) (by kernel_rfl) ?_
    refine EW.block (x := Cd43.r.r.l.r.l.l.r.r.l.l) (id := 1) (by kernel_rfl) ?_
    refine EW.seq (x := Cd43.r.r.l.r.l.l.r.r.l.l.l) (y := Cd43.r.r.l.r.l.l.r.r.l.l.r) (by kernel_rfl) ?_
    refine EW.region (id := 4) (ops := Cd43.r.r.l.r.l.l.r.r.l.l.l.ops) (by kernel_rfl) ?_
    refine EL.quick 2 [0, 4, 5, 16, 17] [(0, .slice b2 a1.length a2), (4, .slice e4 c9.length c8), (5, .int .i64 c6), (16, .int .i64 (c5.length : Int)), (17, .int .i64 c6)] (by kernel_rfl) ?_
    refine EL.done (by kernel_rfl) ?_
    refine EQ.code ?_
    refine EW.region (id := 5) (ops := Cd43.r.r.l.r.l.l.r.r.l.l.r.ops) (by kernel_rfl) ?_
    refine EL.quick 2 [0, 4, 16, 17, 20, 21] [(0, .slice b2 a1.length a2), (4, .slice e4 c9.length c8), (16, .int .i64 (c5.length : Int)), (17, .int .i64 c6), (20, .slice e4 c9.length c8), (21, .int .i64 c6)] (by kernel_rfl) ?_
    obtain ⟨m5, H⟩ := ite_in H
    obtain ⟨m6, H⟩ := ite_in H
    obtain ⟨f3, rfl⟩ := St.rd_some hS (Rd.own 0 3 rfl) m5 m6
    refine EL.of (EO.Y (YO.idx 39 1 f3 c9.length c8 .i64 c6 22 (by kernel_rfl) (by kernel_rfl) (by kernel_rfl) (by kernel_rfl) m5 m6) ?_)
    obtain ⟨f6, o0, H⟩ := lt_out H
    refine EL.of (EO.storeEl hS 0 (Kd.int .i64) 3 f3 c8 c9 rfl c6 m5 m6 0 3 1 0 rfl (.int .i64 (-1)) (-1) f6 o0 (Ass.own 3 (Kd.int .i64) (some f3) c8 f6 :: os) (by kernel_rfl) (by kernel_rfl) (by kernel_rfl) (by kernel_rfl) (by kernel_rfl) (by kernel_rfl) (fun w G vs hr h => set_whole h (by kernel_rfl) rfl) rfl ?_)
    intro w hS
    refine EL.keep [0, 4, 16, 17] [(0, .slice b2 a1.length a2), (4, .slice (some f3) c9.length c8), (16, .int .i64 (c5.length : Int)), (17, .int .i64 c6)] (by kernel_rfl) ?_
    refine EL.as' [(0, .slice b2 a1.length a2), (4, .slice (some f3) f6.length c8), (16, .int .i64 (c5.length : Int)), (17, .int .i64 c6)] (by simp only [o0, List.length_set]) ?_
    refine EL.done (by kernel_rfl) ?_
    refine EQ.pop ?_
    refine EQ.code ?_
    refine EW.region (id := 6) (ops := Cd43.r.r.l.r.l.l.r.r.r.ops) (by kernel_rfl) ?_
    refine EL.quick 2 [0, 4, 16, 17] [(0, .slice b2 a1.length a2), (4, .slice (some f3) f6.length c8), (16, .int .i64 (c5.length : Int)), (17, .int .i64 (IntKind.i64.wrap (c6 + 1)))] (by kernel_rfl) ?_
    refine EL.done (by kernel_rfl) ?_
    refine EQ.to ?_
    refine EQ.keep [0, 4, 16, 17] [(0, .slice b2 a1.length a2), (4, .slice (some f3) f6.length c8), (16, .int .i64 (c5.length : Int)), (17, .int .i64 (IntKind.i64.wrap (c6 + 1)))] (by kernel_rfl) ?_
    exact fun a ha => ⟨n, Nat.lt_succ_self n, f6, IntKind.i64.wrap (c6 + 1), (some f3), c8, ha, (hS.re [0] [] rfl (sub_cons 0 rfl (sub_tail (sub_self)))), H⟩
   ·rw [if_neg m4] at H
    refine EW.exit (id := 0) (by kernel_rfl) ?_
    refine EQ.exitCode ?_
    refine EQ.exitTo ?_
    refine EQ.exitHere ?_
    refine EQ.to ?_
    refine EQ.keep [0, 4] [(0, .slice b2 a1.length a2), (4, .slice e4 c9.length c8)] (by kernel_rfl) ?_
    exact fun a ha => ⟨c9, e4, c8, ha, (hS.re [0] [] rfl (sub_cons 0 rfl (sub_tail (sub_self)))), H⟩
 ·obtain ⟨d4, g8, d1, ha, hS, H⟩ := hI
  rw [p3] at H
  (try dsimp only at H)
  refine EW.at ?_ a ha
  clear ha a
  refine EW.seq (x := Cd43.r.r.r.l) (y := Cd43.r.r.r.r) (by kernel_rfl) ?_
  refine EW.region (id := 7) (ops := Cd43.r.r.r.l.ops) (by kernel_rfl) ?_
  refine EL.quick 3 [0, 4, 6] [(0, .slice b2 a1.length a2), (4, .slice g8 d4.length d1), (6, .int .i64 (a1.length : Int))] (by kernel_rfl) ?_
  refine EL.done (by kernel_rfl) ?_
  refine EQ.code ?_
  refine EW.seq (x := Cd43.r.r.r.r.l) (y := Cd43.r.r.r.r.r) (by kernel_rfl) ?_
  refine EW.region (id := 8) (ops := Cd43.r.r.r.r.l.ops) (by kernel_rfl) ?_
  refine EL.quick 1 [0, 4, 6, 26] [(0, .slice b2 a1.length a2), (4, .slice g8 d4.length d1), (6, .int .i64 (a1.length : Int)), (26, .slice g8 d4.length d1)] (by kernel_rfl) ?_
  obtain ⟨m7, H⟩ := ite_in H
  obtain ⟨f4, rfl⟩ := St.rd_some hS (Rd.own 0 3 rfl) (by decide) m7
  refine EL.of (EO.Y (YO.idx 39 1 f4 d4.length d1 .i64 0 27 (by kernel_rfl) (by kernel_rfl) (by kernel_rfl) (by kernel_rfl) (by decide) m7) ?_)
  obtain ⟨f7, o1, H⟩ := lt_out H
  refine EL.of (EO.storeEl hS 0 (Kd.int .i64) 3 f4 d1 d4 rfl 0 (by decide) m7 0 3 1 0 rfl (.int .i64 0) 0 f7 o1 (Ass.own 3 (Kd.int .i64) (some f4) d1 f7 :: os) (by kernel_rfl) (by kernel_rfl) (by kernel_rfl) (by kernel_rfl) (by kernel_rfl) (by kernel_rfl) (fun w G vs hr h => set_whole h (by kernel_rfl) rfl) rfl ?_)
  intro w hS
  refine EL.keep [0, 4, 6] [(0, .slice b2 a1.length a2), (4, .slice (some f4) d4.length d1), (6, .int .i64 (a1.length : Int))] (by kernel_rfl) ?_
  refine EL.as' [(0, .slice b2 a1.length a2), (4, .slice (some f4) f7.length d1), (6, .int .i64 (a1.length : Int))] (by simp only [o1, List.length_set]) ?_
  refine EL.done (by kernel_rfl) ?_
  refine EQ.code ?_
  obtain ⟨g4, p4, H⟩ := lt_out H
  refine EW.cut (x := Cd43.r.r.r.r.r.l) (y := Cd43.r.r.r.r.r.r) (fun a w => ∃ j5 : List Int, ∃ d2 : List Int, ∃ d9 : Int, ∃ m1 : Option Addr, ∃ m2 : Nat, ∃ d5 : Option Addr, ∃ d6 : Nat, Sat 119 [(0, .slice b2 a1.length a2), (4, .slice d5 d2.length d6), (6, .int .i64 d9)] a ∧ St B w (Ass.own 3 (Kd.int .i64) m1 m2 j5 :: Ass.own 3 (Kd.int .i64) d5 d6 d2 :: os) (Ro.sl kS32 b2 a2 a1 :: rs) ∧ g4 j5 d2 d9 = some (d7, d8)) (by kernel_rfl) ?_ (fun a w hI => ?_)
  ·refine EW.seq (x := Cd43.r.r.r.r.r.l.l) (y := Cd43.r.r.r.r.r.l.r) (by kernel_rfl) ?_
   refine EW.region (id := 9) (ops := Cd43.r.r.r.r.r.l.l.ops) (by kernel_rfl) ?_
   obtain ⟨i6, o2, H⟩ := lt_out H
   refine EL.of (EO.lit hS (Kd.int .i64) 3 39 1 #[(0, .int .i64 0)] [.int .i64 0] i6 28 (by kernel_rfl) (by kernel_rfl) (by kernel_rfl) (fun _ => (by kernel_rfl)) (by rw [o2]; rfl) (by kernel_rfl) (fun w G hr => (by rw [o2]; exact ⟨[.int .i64 0], [], rfl, rfl, rfl⟩)) ?_)
   intro m3 w hS
   refine EL.quick 1 [0, 4, 6, 7] [(0, .slice b2 a1.length a2), (4, .slice (some f4) f7.length d1), (6, .int .i64 (a1.length : Int)), (7, .slice (some ⟨m3, 0, none⟩) i6.length 1)] (by kernel_rfl) ?_
   refine EL.done (by kernel_rfl) ?_
   refine EQ.code ?_
   refine EW.block (x := Cd43.r.r.r.r.r.l.r.l) (id := 2) (by kernel_rfl) ?_
   refine EW.loop (x := Cd43.r.r.r.r.r.l.r.l.l) (fun n a w => ∃ a0 : List Int, ∃ a4 : List Int, ∃ b3 : Int, ∃ f9 : Option Addr, ∃ a9 : Nat, ∃ e9 : Option Addr, ∃ a8 : Nat, Sat 119 [(0, .slice b2 a1.length a2), (4, .slice e9 a4.length a8), (6, .int .i64 b3), (7, .slice f9 a0.length a9)] a ∧ St B w (Ass.own 3 (Kd.int .i64) f9 a9 a0 :: Ass.own 3 (Kd.int .i64) e9 a8 a4 :: os) (Ro.sl kS32 b2 a2 a1 :: rs) ∧ verify_walk.l1 K a1 g4 n a0 a4 b3 = some (d7, d8)) K (by kernel_rfl) ?_ (fun n a w hI => ?_)
   ·refine EQ.keep [0, 4, 6, 7] [(0, .slice b2 a1.length a2), (4, .slice (some f4) f7.length d1), (6, .int .i64 (a1.length : Int)), (7, .slice (some ⟨m3, 0, none⟩) i6.length 1)] (by kernel_rfl) ?_
    exact fun a ha => ⟨i6, f7, (a1.length : Int), (some ⟨m3, 0, none⟩), 1, (some f4), d1, ha, (hS.re [1, 1] [] rfl (sub_cons 0 rfl (sub_tail (sub_self)))), H⟩
   ·obtain ⟨a0, a4, b3, f9, a9, e9, a8, ha, hS, H⟩ := hI
    obtain _ | n := n
    ·simp [verify_walk.l1] at H
    rw [verify_walk.l1.eq_2] at H
    refine EW.at ?_ a ha
    clear ha a
    refine EW.seq (x := Cd43.r.r.r.r.r.l.r.l.l.l) (y := Cd43.r.r.r.r.r.l.r.l.l.r) (by kernel_rfl) ?_
    refine EW.seq (x := Cd43.r.r.r.r.r.l.r.l.l.l.l) (y := Cd43.r.r.r.r.r.l.r.l.l.l.r) (by kernel_rfl) ?_
    refine EW.region (id := 10) (ops := Cd43.r.r.r.r.r.l.r.l.l.l.l.ops) (by kernel_rfl) ?_
    refine EL.quick 3 [0, 4, 6, 7, 31] [(0, .slice b2 a1.length a2), (4, .slice e9 a4.length a8), (6, .int .i64 b3), (7, .slice f9 a0.length a9), (31, .bool (decide ((a0.length : Int) > 0)))] (by kernel_rfl) ?_
    refine EL.done (by kernel_rfl) ?_
    refine EQ.code ?_
    refine EW.condP (o := (.tmp 31)) (x := Cd43.r.r.r.r.r.l.r.l.l.l.r.l) (y := Cd43.r.r.r.r.r.l.r.l.l.l.r.r) ((a0.length : Int) > 0) (by kernel_rfl) (by kernel_rfl) (fun m8 => ?_) (fun m8 => ?_)
    ·rw [if_pos m8] at H
     refine EW.skip (by kernel_rfl) ?_
     refine EQ.code ?_
     obtain ⟨f5, p5, H⟩ := lt_out H
     refine EW.cut (x := Cd43.r.r.r.r.r.l.r.l.l.r.l) (y := Cd43.r.r.r.r.r.l.r.l.l.r.r) (fun a w => ∃ e3 : List Int, ∃ e0 : List Int, ∃ e6 : Int, ∃ j0 : Option Addr, ∃ i1 : Nat, ∃ f1 : Option Addr, ∃ f2 : Nat, Sat 119 [(0, .slice b2 a1.length a2), (4, .slice f1 e0.length f2), (6, .int .i64 e6), (7, .slice j0 e3.length i1)] a ∧ St B w (Ass.own 3 (Kd.int .i64) j0 i1 e3 :: Ass.own 3 (Kd.int .i64) f1 f2 e0 :: os) (Ro.sl kS32 b2 a2 a1 :: rs) ∧ f5 e3 e0 e6 = some (d7, d8)) (by kernel_rfl) ?_ (fun a w hI => ?_)
     ·refine EW.block (x := Cd43.r.r.r.r.r.l.r.l.l.r.l.l) (id := 3) (by kernel_rfl) ?_
      refine EW.seq (x := Cd43.r.r.r.r.r.l.r.l.l.r.l.l.l) (y := Cd43.r.r.r.r.r.l.r.l.l.r.l.l.r) (by kernel_rfl) ?_
      refine EW.region (id := 12) (ops := Cd43.r.r.r.r.r.l.r.l.l.r.l.l.l.ops) (by kernel_rfl) ?_
      refine EL.quick 1 [0, 4, 6, 7, 34] [(0, .slice b2 a1.length a2), (4, .slice e9 a4.length a8), (6, .int .i64 b3), (7, .slice f9 a0.length a9), (34, .slice f9 a0.length a9)] (by kernel_rfl) ?_
      obtain ⟨m9, H⟩ := ite_in H
      obtain ⟨b6, rfl⟩ := St.rd_some hS (Rd.own 0 3 rfl) (by decide) m9
      refine EL.of (EO.Y (YO.idx 39 1 b6 a0.length a9 .i64 0 35 (by kernel_rfl) (by kernel_rfl) (by kernel_rfl) (by kernel_rfl) (by decide) m9) ?_)
      refine EL.of (EO.Y (YO.loadEl hS (Kd.int .i64) b6 a9 a0 (Rd.own 0 3 rfl) 0 (encI .i64) encI_of 0 (by decide) m9 3 1 0 1 rfl (.int .i64 (a0.getD (0 : Int).toNat 0)) 36 (by kernel_rfl) (by kernel_rfl) (by kernel_rfl) (by kernel_rfl)) ?_)
      refine EL.quick 1 [0, 4, 6, 7, 8] [(0, .slice b2 a1.length a2), (4, .slice e9 a4.length a8), (6, .int .i64 b3), (7, .slice (some b6) a0.length a9), (8, .int .i64 (a0.getD (0 : Int).toNat 0))] (by kernel_rfl) ?_
      refine EL.done (by kernel_rfl) ?_
      refine EQ.code ?_
      refine EW.seq (x := Cd43.r.r.r.r.r.l.r.l.l.r.l.l.r.l) (y := Cd43.r.r.r.r.r.l.r.l.l.r.l.l.r.r) (by kernel_rfl) ?_
      obtain ⟨e1, H⟩ := ite_in H
      obtain ⟨n0, H⟩ := ite_in H
      obtain ⟨b7, rfl⟩ := St.rd_some hS (Rd.own 1 3 rfl) e1 n0
      obtain ⟨g0, H⟩ := ite_in H
      obtain ⟨a5, rfl⟩ := St.rd_some hS (Rd.ro 0 rfl) e1 g0
      obtain ⟨b8, o9, H⟩ := b1_out H
      have hS := hS.drew
      refine EW.draw (B := B) (id := 13) (ops := Cd43.r.r.r.r.r.l.r.l.l.r.l.l.r.l.ops) [Ass.own 3 (Kd.int .i64) (some b6) a9 a0, Ass.own 3 (Kd.int .i64) (some b7) a8 a4] [Ro.sl kS32 (some a5) a2 a1] (by kernel_rfl) (by kernel_rfl) ?_
      have hN : Region.noSelect Cd43.r.r.r.r.r.l.r.l.l.r.l.l.r.l.ops = true := (by kernel_rfl)
      have hF : freeAll Cd43.r.r.r.r.r.l.r.l.l.r.l.l.r.l.ops = true := (by kernel_rfl)
      have hC : Core B [Ass.own 3 (Kd.int .i64) (some b6) a9 a0, Ass.own 3 (Kd.int .i64) (some b7) a8 a4] [Ro.sl kS32 (some a5) a2 a1] _ := ⟨_, _, hS⟩
      refine ED.quick hN hF hC [0, 1, 4, 5] [0, 4, 6, 7, 8, 37, 38, 41, 42] 8 [(0, .slice (some a5) a1.length a2), (4, .slice (some b7) a4.length a8), (6, .int .i64 b3), (7, .slice (some b6) a0.length a9), (8, .int .i64 (a0.getD (0 : Int).toNat 0)), (37, .slice (some b7) a4.length a8), (38, .int .i64 (a0.getD (0 : Int).toNat 0)), (41, .slice (some a5) a1.length a2), (42, .int .i64 (a0.getD (0 : Int).toNat 0))] #[true, true, false, false, true, true, false, false, false, false, false, false] (by kernel_rfl) (by kernel_rfl) ?_
      refine ED.Y hN hF hC 2 7 #[true, true, true, false, true, true, false, false, false, false, false, false] (by kernel_rfl) (by kernel_rfl) rfl (fun _ _ _ hS => YO.idx 39 1 b7 a4.length a8 .i64 (a0.getD (0 : Int).toNat 0) 39 (by kernel_rfl) (by kernel_rfl) (by kernel_rfl) (by kernel_rfl) e1 n0) ?_
      refine ED.Y hN hF hC 3 6 #[true, true, true, true, true, true, false, false, false, false, false, false] (by kernel_rfl) (by kernel_rfl) rfl (fun _ _ _ hS => YO.loadEl hS (Kd.int .i64) b7 a8 a4 (Rd.own 1 3 rfl) 0 (encI .i64) encI_of (a0.getD (0 : Int).toNat 0) e1 n0 3 1 0 1 rfl (.int .i64 (a4.getD (a0.getD (0 : Int).toNat 0).toNat 0)) 40 (by kernel_rfl) (by kernel_rfl) (by kernel_rfl) (by kernel_rfl)) ?_
      refine ED.Y hN hF hC 6 5 #[true, true, true, true, true, true, true, false, false, false, false, false] (by kernel_rfl) (by kernel_rfl) rfl (fun _ _ _ hS => YO.idx 29 2 a5 a1.length a2 .i64 (a0.getD (0 : Int).toNat 0) 43 (by kernel_rfl) (by kernel_rfl) (by kernel_rfl) (by kernel_rfl) e1 g0) ?_
      refine ED.quick hN hF hC [7] [0, 4, 6, 7, 8, 40, 44] 4 [(0, .slice (some a5) a1.length a2), (4, .slice (some b7) a4.length a8), (6, .int .i64 b3), (7, .slice (some b6) a0.length a9), (8, .int .i64 (a0.getD (0 : Int).toNat 0)), (40, .int .i64 (a4.getD (a0.getD (0 : Int).toNat 0).toNat 0)), (44, .pointer (some ((a5.add ((a0.getD (0 : Int).toNat 0).toNat * 2)).add 0)))] #[true, true, true, true, true, true, true, true, false, false, false, false] (by kernel_rfl) (by kernel_rfl) ?_
      refine ED.Y hN hF hC 8 3 #[true, true, true, true, true, true, true, true, true, false, false, false] (by kernel_rfl) (by kernel_rfl) rfl (fun _ _ _ hS => YO.loadEl hS kS32 a5 a2 a1 (Rd.ro 0 rfl) zS32 encS32 encS32_of (a0.getD (0 : Int).toNat 0) e1 g0 3 2 0 1 rfl (.int .i64 ((a1.getD (a0.getD (0 : Int).toNat 0).toNat zS32).f0)) 45 (by kernel_rfl) (by kernel_rfl) (by kernel_rfl) (by kernel_rfl)) ?_
      refine ED.one 9 2 #[true, true, true, true, true, true, true, true, true, true, false, false] (by kernel_rfl) (by kernel_rfl) (by kernel_rfl) (EO.callD 62 [.int .i64 ((a1.getD (a0.getD (0 : Int).toNat 0).toNat zS32).f0)] _ 46 (by kernel_rfl) (by kernel_rfl) (by kernel_rfl) (ops_Pops.calls o9 hS) ?_)
      rintro v w ⟨rfl, hS⟩
      have hC : Core B [Ass.own 3 (Kd.int .i64) (some b6) a9 a0, Ass.own 3 (Kd.int .i64) (some b7) a8 a4] [Ro.sl kS32 (some a5) a2 a1] _ := ⟨_, _, hS⟩
      refine ⟨hC, ?_⟩
      refine ED.quick hN hF hC [10, 11] [0, 4, 6, 7, 8, 9] 0 [(0, .slice (some a5) a1.length a2), (4, .slice (some b7) a4.length a8), (6, .int .i64 b3), (7, .slice (some b6) a0.length a9), (8, .int .i64 (a0.getD (0 : Int).toNat 0)), (9, .int .i64 (IntKind.i64.wrap ((a4.getD (a0.getD (0 : Int).toNat 0).toNat 0) - b8)))] #[true, true, true, true, true, true, true, true, true, true, true, true] (by kernel_rfl) (by kernel_rfl) ?_
      refine ED.done (by kernel_rfl) ?_
      refine EQ.code ?_
      refine EW.seq (x := Cd43.r.r.r.r.r.l.r.l.l.r.l.l.r.r.l) (y := Cd43.r.r.r.r.r.l.r.l.l.r.l.l.r.r.r) (by kernel_rfl) ?_
      obtain ⟨j9, p6, H⟩ := lt_out H
      refine EW.cut (x := Cd43.r.r.r.r.r.l.r.l.l.r.l.l.r.r.l.l) (y := Cd43.r.r.r.r.r.l.r.l.l.r.l.l.r.r.l.r) (fun a w => ∃ b0 : Int, ∃ i8 : Bool, Sat 119 [(0, .slice (some a5) a1.length a2), (4, .slice (some b7) a4.length a8), (6, .int .i64 b3), (7, .slice (some b6) a0.length a9), (8, .int .i64 (a0.getD (0 : Int).toNat 0)), (9, .int .i64 b0), (60, .bool (i8))] a ∧ St B w (Ass.own 3 (Kd.int .i64) (some b6) a9 a0 :: Ass.own 3 (Kd.int .i64) (some b7) a8 a4 :: os) (Ro.sl kS32 (some a5) a2 a1 :: rs) ∧ j9 b0 i8 = some (d7, d8)) (by kernel_rfl) ?_ (fun a w hI => ?_)
      ·refine EW.region (id := 14) (ops := Cd43.r.r.r.r.r.l.r.l.l.r.l.l.r.r.l.l.ops) (by kernel_rfl) ?_
       refine EL.quick 3 [0, 4, 6, 7, 8, 9, 50] [(0, .slice (some a5) a1.length a2), (4, .slice (some b7) a4.length a8), (6, .int .i64 b3), (7, .slice (some b6) a0.length a9), (8, .int .i64 (a0.getD (0 : Int).toNat 0)), (9, .int .i64 (IntKind.i64.wrap ((a4.getD (a0.getD (0 : Int).toNat 0).toNat 0) - b8))), (50, .bool (decide ((IntKind.i64.wrap ((a4.getD (a0.getD (0 : Int).toNat 0).toNat 0) - b8)) < 0)))] (by kernel_rfl) ?_
       by_cases j8 : (IntKind.i64.wrap ((a4.getD (a0.getD (0 : Int).toNat 0).toNat 0) - b8)) < 0
       ·rw [if_pos j8] at H
        refine EL.keep [0, 4, 6, 7, 8, 9, 50] [(0, .slice (some a5) a1.length a2), (4, .slice (some b7) a4.length a8), (6, .int .i64 b3), (7, .slice (some b6) a0.length a9), (8, .int .i64 (a0.getD (0 : Int).toNat 0)), (9, .int .i64 (IntKind.i64.wrap ((a4.getD (a0.getD (0 : Int).toNat 0).toNat 0) - b8))), (50, .bool (decide ((IntKind.i64.wrap ((a4.getD (a0.getD (0 : Int).toNat 0).toNat 0) - b8)) < 0)))] (by kernel_rfl) ?_
        refine EL.as' [(0, .slice (some a5) a1.length a2), (4, .slice (some b7) a4.length a8), (6, .int .i64 b3), (7, .slice (some b6) a0.length a9), (8, .int .i64 (a0.getD (0 : Int).toNat 0)), (9, .int .i64 (IntKind.i64.wrap ((a4.getD (a0.getD (0 : Int).toNat 0).toNat 0) - b8))), (50, .bool (true))] (by simp only [dec_t j8, Bool.not_true, Bool.not_false]) ?_
        refine EL.quick 10 [0, 4, 6, 7, 8, 9, 60] [(0, .slice (some a5) a1.length a2), (4, .slice (some b7) a4.length a8), (6, .int .i64 b3), (7, .slice (some b6) a0.length a9), (8, .int .i64 (a0.getD (0 : Int).toNat 0)), (9, .int .i64 (IntKind.i64.wrap ((a4.getD (a0.getD (0 : Int).toNat 0).toNat 0) - b8))), (60, .bool (true))] (by kernel_rfl) ?_
        obtain ⟨j6, q2, H⟩ := lt_out H
        refine EL.keep [0, 4, 6, 7, 8, 9, 60] [(0, .slice (some a5) a1.length a2), (4, .slice (some b7) a4.length a8), (6, .int .i64 b3), (7, .slice (some b6) a0.length a9), (8, .int .i64 (a0.getD (0 : Int).toNat 0)), (9, .int .i64 (IntKind.i64.wrap ((a4.getD (a0.getD (0 : Int).toNat 0).toNat 0) - b8))), (60, .bool (true))] (by kernel_rfl) ?_
        refine EL.as' [(0, .slice (some a5) a1.length a2), (4, .slice (some b7) a4.length a8), (6, .int .i64 b3), (7, .slice (some b6) a0.length a9), (8, .int .i64 (a0.getD (0 : Int).toNat 0)), (9, .int .i64 j6), (60, .bool (true))] (by subst q2; rfl) ?_
        refine EL.done (by kernel_rfl) ?_
        refine EQ.to ?_
        refine EQ.keep [0, 4, 6, 7, 8, 9, 60] [(0, .slice (some a5) a1.length a2), (4, .slice (some b7) a4.length a8), (6, .int .i64 b3), (7, .slice (some b6) a0.length a9), (8, .int .i64 (a0.getD (0 : Int).toNat 0)), (9, .int .i64 j6), (60, .bool (true))] (by kernel_rfl) ?_
        exact fun a ha => ⟨j6, true, ha, (hS.re [1, 1] [] rfl (sub_cons 0 rfl (sub_tail (sub_self)))), H⟩
       ·rw [if_neg j8] at H
        refine EL.keep [0, 4, 6, 7, 8, 9, 50] [(0, .slice (some a5) a1.length a2), (4, .slice (some b7) a4.length a8), (6, .int .i64 b3), (7, .slice (some b6) a0.length a9), (8, .int .i64 (a0.getD (0 : Int).toNat 0)), (9, .int .i64 (IntKind.i64.wrap ((a4.getD (a0.getD (0 : Int).toNat 0).toNat 0) - b8))), (50, .bool (decide ((IntKind.i64.wrap ((a4.getD (a0.getD (0 : Int).toNat 0).toNat 0) - b8)) < 0)))] (by kernel_rfl) ?_
        refine EL.as' [(0, .slice (some a5) a1.length a2), (4, .slice (some b7) a4.length a8), (6, .int .i64 b3), (7, .slice (some b6) a0.length a9), (8, .int .i64 (a0.getD (0 : Int).toNat 0)), (9, .int .i64 (IntKind.i64.wrap ((a4.getD (a0.getD (0 : Int).toNat 0).toNat 0) - b8))), (50, .bool (false))] (by simp only [dec_f j8, Bool.not_true, Bool.not_false]) ?_
        refine EL.quick 3 [0, 4, 6, 7, 8, 9, 50, 51, 52, 53] [(0, .slice (some a5) a1.length a2), (4, .slice (some b7) a4.length a8), (6, .int .i64 b3), (7, .slice (some b6) a0.length a9), (8, .int .i64 (a0.getD (0 : Int).toNat 0)), (9, .int .i64 (IntKind.i64.wrap ((a4.getD (a0.getD (0 : Int).toNat 0).toNat 0) - b8))), (50, .bool (false)), (51, .int .i64 (IntKind.i64.wrap ((a4.getD (a0.getD (0 : Int).toNat 0).toNat 0) - b8))), (52, .slice (some a5) a1.length a2), (53, .int .i64 (a0.getD (0 : Int).toNat 0))] (by kernel_rfl) ?_
        refine EL.of (EO.Y (YO.idx 29 2 a5 a1.length a2 .i64 (a0.getD (0 : Int).toNat 0) 54 (by kernel_rfl) (by kernel_rfl) (by kernel_rfl) (by kernel_rfl) e1 g0) ?_)
        refine EL.quick 1 [0, 4, 6, 7, 8, 9, 50, 51, 52, 53, 54, 55] [(0, .slice (some a5) a1.length a2), (4, .slice (some b7) a4.length a8), (6, .int .i64 b3), (7, .slice (some b6) a0.length a9), (8, .int .i64 (a0.getD (0 : Int).toNat 0)), (9, .int .i64 (IntKind.i64.wrap ((a4.getD (a0.getD (0 : Int).toNat 0).toNat 0) - b8))), (50, .bool (false)), (51, .int .i64 (IntKind.i64.wrap ((a4.getD (a0.getD (0 : Int).toNat 0).toNat 0) - b8))), (52, .slice (some a5) a1.length a2), (53, .int .i64 (a0.getD (0 : Int).toNat 0)), (54, .pointer (some ((a5.add ((a0.getD (0 : Int).toNat 0).toNat * 2)).add 0))), (55, .pointer (some ((a5.add ((a0.getD (0 : Int).toNat 0).toNat * 2)).add 0)))] (by kernel_rfl) ?_
        refine EL.of (EO.Y (YO.loadEl hS kS32 a5 a2 a1 (Rd.ro 0 rfl) zS32 encS32 encS32_of (a0.getD (0 : Int).toNat 0) e1 g0 3 2 0 1 rfl (.int .i64 ((a1.getD (a0.getD (0 : Int).toNat 0).toNat zS32).f0)) 56 (by kernel_rfl) (by kernel_rfl) (by kernel_rfl) (by kernel_rfl)) ?_)
        obtain ⟨d0, p0, H⟩ := b1_out H
        refine EL.of (EO.callD 63 [.int .i64 ((a1.getD (a0.getD (0 : Int).toNat 0).toNat zS32).f0)] _ 57 (by kernel_rfl) (by kernel_rfl) (by kernel_rfl) (ops_Pushes.calls p0 hS) ?_)
        rintro v w ⟨rfl, hS⟩
        refine EL.quick 3 [0, 4, 6, 7, 8, 9, 51, 52, 53, 54, 55, 56, 57, 58, 59, 60] [(0, .slice (some a5) a1.length a2), (4, .slice (some b7) a4.length a8), (6, .int .i64 b3), (7, .slice (some b6) a0.length a9), (8, .int .i64 (a0.getD (0 : Int).toNat 0)), (9, .int .i64 (IntKind.i64.wrap ((a4.getD (a0.getD (0 : Int).toNat 0).toNat 0) - b8))), (51, .int .i64 (IntKind.i64.wrap ((a4.getD (a0.getD (0 : Int).toNat 0).toNat 0) - b8))), (52, .slice (some a5) a1.length a2), (53, .int .i64 (a0.getD (0 : Int).toNat 0)), (54, .pointer (some ((a5.add ((a0.getD (0 : Int).toNat 0).toNat * 2)).add 0))), (55, .pointer (some ((a5.add ((a0.getD (0 : Int).toNat 0).toNat * 2)).add 0))), (56, .int .i64 ((a1.getD (a0.getD (0 : Int).toNat 0).toNat zS32).f0)), (57, .int .i64 d0), (58, .int .i64 (IntKind.i64.wrap ((IntKind.i64.wrap ((a4.getD (a0.getD (0 : Int).toNat 0).toNat 0) - b8)) + d0))), (59, .bool (decide ((IntKind.i64.wrap ((IntKind.i64.wrap ((a4.getD (a0.getD (0 : Int).toNat 0).toNat 0) - b8)) + d0)) > 32))), (60, .bool (decide ((IntKind.i64.wrap ((IntKind.i64.wrap ((a4.getD (a0.getD (0 : Int).toNat 0).toNat 0) - b8)) + d0)) > 32)))] (by kernel_rfl) ?_
        obtain ⟨i9, q3, H⟩ := lt_out H
        obtain ⟨o5, q4, H⟩ := lt_out H
        refine EL.keep [0, 4, 6, 7, 8, 9, 51, 52, 53, 54, 55, 56, 57, 58, 59, 60] [(0, .slice (some a5) a1.length a2), (4, .slice (some b7) a4.length a8), (6, .int .i64 b3), (7, .slice (some b6) a0.length a9), (8, .int .i64 (a0.getD (0 : Int).toNat 0)), (9, .int .i64 (IntKind.i64.wrap ((a4.getD (a0.getD (0 : Int).toNat 0).toNat 0) - b8))), (51, .int .i64 (IntKind.i64.wrap ((a4.getD (a0.getD (0 : Int).toNat 0).toNat 0) - b8))), (52, .slice (some a5) a1.length a2), (53, .int .i64 (a0.getD (0 : Int).toNat 0)), (54, .pointer (some ((a5.add ((a0.getD (0 : Int).toNat 0).toNat * 2)).add 0))), (55, .pointer (some ((a5.add ((a0.getD (0 : Int).toNat 0).toNat * 2)).add 0))), (56, .int .i64 ((a1.getD (a0.getD (0 : Int).toNat 0).toNat zS32).f0)), (57, .int .i64 d0), (58, .int .i64 (IntKind.i64.wrap ((IntKind.i64.wrap ((a4.getD (a0.getD (0 : Int).toNat 0).toNat 0) - b8)) + d0))), (59, .bool (decide ((IntKind.i64.wrap ((IntKind.i64.wrap ((a4.getD (a0.getD (0 : Int).toNat 0).toNat 0) - b8)) + d0)) > 32))), (60, .bool (decide ((IntKind.i64.wrap ((IntKind.i64.wrap ((a4.getD (a0.getD (0 : Int).toNat 0).toNat 0) - b8)) + d0)) > 32)))] (by kernel_rfl) ?_
        refine EL.as' [(0, .slice (some a5) a1.length a2), (4, .slice (some b7) a4.length a8), (6, .int .i64 b3), (7, .slice (some b6) a0.length a9), (8, .int .i64 (a0.getD (0 : Int).toNat 0)), (9, .int .i64 i9), (51, .int .i64 i9), (52, .slice (some a5) a1.length a2), (53, .int .i64 (a0.getD (0 : Int).toNat 0)), (54, .pointer (some ((a5.add ((a0.getD (0 : Int).toNat 0).toNat * 2)).add 0))), (55, .pointer (some ((a5.add ((a0.getD (0 : Int).toNat 0).toNat * 2)).add 0))), (56, .int .i64 ((a1.getD (a0.getD (0 : Int).toNat 0).toNat zS32).f0)), (57, .int .i64 d0), (58, .int .i64 o5), (59, .bool (decide ((IntKind.i64.wrap ((IntKind.i64.wrap ((a4.getD (a0.getD (0 : Int).toNat 0).toNat 0) - b8)) + d0)) > 32))), (60, .bool (decide ((IntKind.i64.wrap ((IntKind.i64.wrap ((a4.getD (a0.getD (0 : Int).toNat 0).toNat 0) - b8)) + d0)) > 32)))] (by subst q3; subst q4; rfl) ?_
        refine EL.done (by kernel_rfl) ?_
        refine EQ.to ?_
        refine EQ.keep [0, 4, 6, 7, 8, 9, 60] [(0, .slice (some a5) a1.length a2), (4, .slice (some b7) a4.length a8), (6, .int .i64 b3), (7, .slice (some b6) a0.length a9), (8, .int .i64 (a0.getD (0 : Int).toNat 0)), (9, .int .i64 i9), (60, .bool (decide ((IntKind.i64.wrap ((IntKind.i64.wrap ((a4.getD (a0.getD (0 : Int).toNat 0).toNat 0) - b8)) + d0)) > 32)))] (by kernel_rfl) ?_
        exact fun a ha => ⟨i9, decide ((IntKind.i64.wrap ((IntKind.i64.wrap ((a4.getD (a0.getD (0 : Int).toNat 0).toNat 0) - b8)) + d0)) > 32), ha, (hS.re [1, 1] [] rfl (sub_cons 0 rfl (sub_tail (sub_self)))), H⟩
      ·obtain ⟨b0, i8, ha, hS, H⟩ := hI
       rw [p6] at H
       (try dsimp only at H)
       refine EW.at ?_ a ha
       clear ha a
       refine EW.condP' (o := (.tmp 60)) (x := Cd43.r.r.r.r.r.l.r.l.l.r.l.l.r.r.l.r.l) (y := Cd43.r.r.r.r.r.l.r.l.l.r.l.l.r.r.l.r.r) (i8) (by kernel_rfl) (by kernel_rfl) (fun n1 => ?_) (fun n1 => ?_)
       ·rw [if_pos n1] at H
        refine EW.seq (x := Cd43.r.r.r.r.r.l.r.l.l.r.l.l.r.r.l.r.l.l) (y := Cd43.r.r.r.r.r.l.r.l.l.r.l.l.r.r.l.r.l.r) (by kernel_rfl) ?_
        refine EW.region (id := 15) (ops := Cd43.r.r.r.r.r.l.r.l.l.r.l.l.r.r.l.r.l.l.ops) (by kernel_rfl) ?_
        refine EL.quick 4 [0, 4, 6, 7] [(0, .slice (some a5) a1.length a2), (4, .slice (some b7) a4.length a8), (6, .int .i64 (mn b3 (a0.getD (0 : Int).toNat 0))), (7, .slice (some b6) a0.length a9)] (by kernel_rfl) ?_
        refine EL.done (by kernel_rfl) ?_
        refine EQ.code ?_
        refine EW.exit (id := 3) (by kernel_rfl) ?_
        refine EQ.exitCode ?_
        refine EQ.exitHere ?_
        refine EQ.to ?_
        refine EQ.keep [0, 4, 6, 7] [(0, .slice (some a5) a1.length a2), (4, .slice (some b7) a4.length a8), (6, .int .i64 (mn b3 (a0.getD (0 : Int).toNat 0))), (7, .slice (some b6) a0.length a9)] (by kernel_rfl) ?_
        exact fun a ha => ⟨a0, a4, mn b3 (a0.getD (0 : Int).toNat 0), (some b6), a9, (some b7), a8, ha, (hS.re [1, 1] [] rfl (sub_cons 0 rfl (sub_tail (sub_self)))), H⟩
       ·rw [if_neg n1] at H
        refine EW.skip (by kernel_rfl) ?_
        refine EQ.code ?_
        refine EW.seq (x := Cd43.r.r.r.r.r.l.r.l.l.r.l.l.r.r.r.l) (y := Cd43.r.r.r.r.r.l.r.l.l.r.l.l.r.r.r.r) (by kernel_rfl) ?_
        refine EW.region (id := 16) (ops := Cd43.r.r.r.r.r.l.r.l.l.r.l.l.r.r.r.l.ops) (by kernel_rfl) ?_
        refine EL.quick 3 [0, 4, 6, 7, 8, 64, 65, 66] [(0, .slice (some a5) a1.length a2), (4, .slice (some b7) a4.length a8), (6, .int .i64 b3), (7, .slice (some b6) a0.length a9), (8, .int .i64 (a0.getD (0 : Int).toNat 0)), (64, .int .i64 b0), (65, .slice (some a5) a1.length a2), (66, .int .i64 (a0.getD (0 : Int).toNat 0))] (by kernel_rfl) ?_
        refine EL.of (EO.Y (YO.idx 29 2 a5 a1.length a2 .i64 (a0.getD (0 : Int).toNat 0) 67 (by kernel_rfl) (by kernel_rfl) (by kernel_rfl) (by kernel_rfl) e1 g0) ?_)
        refine EL.quick 1 [0, 4, 6, 7, 8, 64, 68] [(0, .slice (some a5) a1.length a2), (4, .slice (some b7) a4.length a8), (6, .int .i64 b3), (7, .slice (some b6) a0.length a9), (8, .int .i64 (a0.getD (0 : Int).toNat 0)), (64, .int .i64 b0), (68, .pointer (some ((a5.add ((a0.getD (0 : Int).toNat 0).toNat * 2)).add 0)))] (by kernel_rfl) ?_
        refine EL.of (EO.Y (YO.loadEl hS kS32 a5 a2 a1 (Rd.ro 0 rfl) zS32 encS32 encS32_of (a0.getD (0 : Int).toNat 0) e1 g0 3 2 0 1 rfl (.int .i64 ((a1.getD (a0.getD (0 : Int).toNat 0).toNat zS32).f0)) 69 (by kernel_rfl) (by kernel_rfl) (by kernel_rfl) (by kernel_rfl)) ?_)
        obtain ⟨b4, p1, H⟩ := b1_out H
        refine EL.of (EO.callD 63 [.int .i64 ((a1.getD (a0.getD (0 : Int).toNat 0).toNat zS32).f0)] _ 70 (by kernel_rfl) (by kernel_rfl) (by kernel_rfl) (ops_Pushes.calls p1 hS) ?_)
        rintro v w ⟨rfl, hS⟩
        refine EL.quick 2 [0, 4, 6, 7, 8, 9] [(0, .slice (some a5) a1.length a2), (4, .slice (some b7) a4.length a8), (6, .int .i64 b3), (7, .slice (some b6) a0.length a9), (8, .int .i64 (a0.getD (0 : Int).toNat 0)), (9, .int .i64 (IntKind.i64.wrap (b0 + b4)))] (by kernel_rfl) ?_
        refine EL.done (by kernel_rfl) ?_
        refine EQ.code ?_
        refine EW.seq (x := Cd43.r.r.r.r.r.l.r.l.l.r.l.l.r.r.r.r.l) (y := Cd43.r.r.r.r.r.l.r.l.l.r.l.l.r.r.r.r.r) (by kernel_rfl) ?_
        refine EW.region (id := 17) (ops := Cd43.r.r.r.r.r.l.r.l.l.r.l.l.r.r.r.r.l.ops) (by kernel_rfl) ?_
        refine EL.quick 2 [0, 4, 6, 7, 8, 9, 72, 73] [(0, .slice (some a5) a1.length a2), (4, .slice (some b7) a4.length a8), (6, .int .i64 b3), (7, .slice (some b6) a0.length a9), (8, .int .i64 (a0.getD (0 : Int).toNat 0)), (9, .int .i64 (IntKind.i64.wrap (b0 + b4))), (72, .slice (some a5) a1.length a2), (73, .int .i64 (a0.getD (0 : Int).toNat 0))] (by kernel_rfl) ?_
        have hS : St B _ (Ass.own 3 (Kd.int .i64) (some b6) a9 a0 :: Ass.own 3 (Kd.int .i64) (some b7) a8 a4 :: os) (Ro.sl kS32 (some a5) a2 a1 :: Ro.sl kS32 (some a5) a2 a1 :: rs) := hS.re [] [] rfl (sub_cons 0 rfl sub_self)
        obtain ⟨a3, p2, H⟩ := b1_out H
        refine EL.of (EO.callD 64 [.slice (some a5) a1.length a2, .int .i64 (a0.getD (0 : Int).toNat 0)] _ 74 (by kernel_rfl) (by kernel_rfl) (by kernel_rfl) (verify_next.calls p2 hS) ?_)
        rintro v w ⟨e5, c1, rfl, hS⟩
        refine EL.quick 2 [0, 4, 6, 7, 8, 9, 74, 75, 76] [(0, .slice (some a5) a1.length a2), (4, .slice (some b7) a4.length a8), (6, .int .i64 b3), (7, .slice (some b6) a0.length a9), (8, .int .i64 (a0.getD (0 : Int).toNat 0)), (9, .int .i64 (IntKind.i64.wrap (b0 + b4))), (74, .slice e5 a3.length c1), (75, .int .i64 (a3.length : Int)), (76, .int .i64 0)] (by kernel_rfl) ?_
        refine EL.done (by kernel_rfl) ?_
        refine EQ.code ?_
        refine EW.block (x := Cd43.r.r.r.r.r.l.r.l.l.r.l.l.r.r.r.r.r.l) (id := 4) (by kernel_rfl) ?_
        refine EW.loop (x := Cd43.r.r.r.r.r.l.r.l.l.r.l.l.r.r.r.r.r.l.l) (fun n a w => ∃ b9 : List Int, ∃ a7 : List Int, ∃ c0 : Int, ∃ a6 : Int, ∃ c2 : Option Addr, ∃ c3 : Nat, ∃ d3 : Option Addr, ∃ b5 : Nat, Sat 119 [(0, .slice (some a5) a1.length a2), (4, .slice d3 a7.length b5), (6, .int .i64 c0), (7, .slice c2 b9.length c3), (8, .int .i64 (a0.getD (0 : Int).toNat 0)), (9, .int .i64 (IntKind.i64.wrap (b0 + b4))), (74, .slice e5 a3.length c1), (75, .int .i64 (a3.length : Int)), (76, .int .i64 a6)] a ∧ St B w (Ass.own 3 (Kd.int .i64) e5 c1 a3 :: Ass.own 3 (Kd.int .i64) c2 c3 b9 :: Ass.own 3 (Kd.int .i64) d3 b5 a7 :: os) (Ro.sl kS32 (some a5) a2 a1 :: Ro.sl kS32 (some a5) a2 a1 :: rs) ∧ verify_walk.l2 K a3 a1 a0 b0 b4 f5 n b9 a7 c0 a6 = some (d7, d8)) K (by kernel_rfl) ?_ (fun n a w hI => ?_)
        ·refine EQ.keep [0, 4, 6, 7, 8, 9, 74, 75, 76] [(0, .slice (some a5) a1.length a2), (4, .slice (some b7) a4.length a8), (6, .int .i64 b3), (7, .slice (some b6) a0.length a9), (8, .int .i64 (a0.getD (0 : Int).toNat 0)), (9, .int .i64 (IntKind.i64.wrap (b0 + b4))), (74, .slice e5 a3.length c1), (75, .int .i64 (a3.length : Int)), (76, .int .i64 0)] (by kernel_rfl) ?_
         exact fun a ha => ⟨a0, a4, b3, 0, (some b6), a9, (some b7), a8, ha, (hS.re [2, 2, 2] [] rfl (sub_cons 0 rfl (sub_cons 0 rfl (sub_tail (sub_tail (sub_self)))))), H⟩
        ·obtain ⟨b9, a7, c0, a6, c2, c3, d3, b5, ha, hS, H⟩ := hI
         obtain _ | n := n
         ·simp [verify_walk.l2] at H
         rw [verify_walk.l2.eq_2] at H
         refine EW.at ?_ a ha
         clear ha a
         refine EW.seq (x := Cd43.r.r.r.r.r.l.r.l.l.r.l.l.r.r.r.r.r.l.l.l) (y := Cd43.r.r.r.r.r.l.r.l.l.r.l.l.r.r.r.r.r.l.l.r) (by kernel_rfl) ?_
         refine EW.region (id := 18) (ops := Cd43.r.r.r.r.r.l.r.l.l.r.l.l.r.r.r.r.r.l.l.l.ops) (by kernel_rfl) ?_
         refine EL.quick 1 [0, 4, 6, 7, 8, 9, 74, 75, 76, 77] [(0, .slice (some a5) a1.length a2), (4, .slice d3 a7.length b5), (6, .int .i64 c0), (7, .slice c2 b9.length c3), (8, .int .i64 (a0.getD (0 : Int).toNat 0)), (9, .int .i64 (IntKind.i64.wrap (b0 + b4))), (74, .slice e5 a3.length c1), (75, .int .i64 (a3.length : Int)), (76, .int .i64 a6), (77, .bool (decide (a6 < (a3.length : Int))))] (by kernel_rfl) ?_
         refine EL.done (by kernel_rfl) ?_
         refine EQ.code ?_
         refine EW.seq (x := Cd43.r.r.r.r.r.l.r.l.l.r.l.l.r.r.r.r.r.l.l.r.l) (y := Cd43.r.r.r.r.r.l.r.l.l.r.l.l.r.r.r.r.r.l.l.r.r) (by kernel_rfl) ?_
         refine EW.condP (o := (.tmp 77)) (x := Cd43.r.r.r.r.r.l.r.l.l.r.l.l.r.r.r.r.r.l.l.r.l.l) (y := Cd43.r.r.r.r.r.l.r.l.l.r.l.l.r.r.r.r.r.l.l.r.l.r) (a6 < (a3.length : Int)) (by kernel_rfl) (by kernel_rfl) (fun i4 => ?_) (fun i4 => ?_)
         ·rw [if_pos i4] at H
          refine EW.skip (by kernel_rfl) ?_
          refine EQ.code ?_
          obtain ⟨i5, p7, H⟩ := lt_out H
          refine EW.cut (x := Cd43.r.r.r.r.r.l.r.l.l.r.l.l.r.r.r.r.r.l.l.r.r.l) (y := Cd43.r.r.r.r.r.l.r.l.l.r.l.l.r.r.r.r.r.l.l.r.r.r) (fun a w => ∃ e7 : List Int, ∃ e8 : List Int, ∃ f8 : Int, ∃ g9 : Option Addr, ∃ i2 : Nat, ∃ i0 : Option Addr, ∃ i3 : Nat, Sat 119 [(0, .slice (some a5) a1.length a2), (4, .slice i0 e8.length i3), (6, .int .i64 f8), (7, .slice g9 e7.length i2), (8, .int .i64 (a0.getD (0 : Int).toNat 0)), (9, .int .i64 (IntKind.i64.wrap (b0 + b4))), (74, .slice e5 a3.length c1), (75, .int .i64 (a3.length : Int)), (76, .int .i64 a6)] a ∧ St B w (Ass.own 3 (Kd.int .i64) e5 c1 a3 :: Ass.own 3 (Kd.int .i64) g9 i2 e7 :: Ass.own 3 (Kd.int .i64) i0 i3 e8 :: os) (Ro.sl kS32 (some a5) a2 a1 :: Ro.sl kS32 (some a5) a2 a1 :: rs) ∧ i5 e7 e8 f8 = some (d7, d8)) (by kernel_rfl) ?_ (fun a w hI => ?_)
          ·refine EW.block (x := Cd43.r.r.r.r.r.l.r.l.l.r.l.l.r.r.r.r.r.l.l.r.r.l.l) (id := 5) (by kernel_rfl) ?_
           refine EW.seq (x := Cd43.r.r.r.r.r.l.r.l.l.r.l.l.r.r.r.r.r.l.l.r.r.l.l.l) (y := Cd43.r.r.r.r.r.l.r.l.l.r.l.l.r.r.r.r.r.l.l.r.r.l.l.r) (by kernel_rfl) ?_
           refine EW.region (id := 19) (ops := Cd43.r.r.r.r.r.l.r.l.l.r.l.l.r.r.r.r.r.l.l.r.r.l.l.l.ops) (by kernel_rfl) ?_
           obtain ⟨n2, H⟩ := ite_in H
           obtain ⟨c7, rfl⟩ := St.rd_some hS (Rd.own 0 3 rfl) n2 i4
           refine EL.of (EO.Y (YO.idx 39 1 c7 a3.length c1 .i64 a6 78 (by kernel_rfl) (by kernel_rfl) (by kernel_rfl) (by kernel_rfl) n2 i4) ?_)
           refine EL.of (EO.Y (YO.loadEl hS (Kd.int .i64) c7 c1 a3 (Rd.own 0 3 rfl) 0 (encI .i64) encI_of a6 n2 i4 3 1 0 1 rfl (.int .i64 (a3.getD a6.toNat 0)) 79 (by kernel_rfl) (by kernel_rfl) (by kernel_rfl) (by kernel_rfl)) ?_)
           refine EL.quick 1 [0, 4, 6, 7, 8, 9, 11, 74, 75, 76] [(0, .slice (some a5) a1.length a2), (4, .slice d3 a7.length b5), (6, .int .i64 c0), (7, .slice c2 b9.length c3), (8, .int .i64 (a0.getD (0 : Int).toNat 0)), (9, .int .i64 (IntKind.i64.wrap (b0 + b4))), (11, .int .i64 (a3.getD a6.toNat 0)), (74, .slice (some c7) a3.length c1), (75, .int .i64 (a3.length : Int)), (76, .int .i64 a6)] (by kernel_rfl) ?_
           refine EL.done (by kernel_rfl) ?_
           refine EQ.code ?_
           refine EW.block (x := Cd43.r.r.r.r.r.l.r.l.l.r.l.l.r.r.r.r.r.l.l.r.r.l.l.r.l) (id := 6) (by kernel_rfl) ?_
           refine EW.seq (x := Cd43.r.r.r.r.r.l.r.l.l.r.l.l.r.r.r.r.r.l.l.r.r.l.l.r.l.l) (y := Cd43.r.r.r.r.r.l.r.l.l.r.l.l.r.r.r.r.r.l.l.r.r.l.l.r.l.r) (by kernel_rfl) ?_
           refine EW.region (id := 20) (ops := Cd43.r.r.r.r.r.l.r.l.l.r.l.l.r.r.r.r.r.l.l.r.r.l.l.r.l.l.ops) (by kernel_rfl) ?_
           refine EL.quick 5 [0, 4, 6, 7, 8, 9, 11, 74, 75, 76, 80] [(0, .slice (some a5) a1.length a2), (4, .slice d3 a7.length b5), (6, .int .i64 c0), (7, .slice c2 b9.length c3), (8, .int .i64 (a0.getD (0 : Int).toNat 0)), (9, .int .i64 (IntKind.i64.wrap (b0 + b4))), (11, .int .i64 (a3.getD a6.toNat 0)), (74, .slice (some c7) a3.length c1), (75, .int .i64 (a3.length : Int)), (76, .int .i64 a6), (80, .bool (decide ((a3.getD a6.toNat 0) ≥ (a1.length : Int))))] (by kernel_rfl) ?_
           refine EL.done (by kernel_rfl) ?_
           refine EQ.code ?_
           refine EW.condP (o := (.tmp 80)) (x := Cd43.r.r.r.r.r.l.r.l.l.r.l.l.r.r.r.r.r.l.l.r.r.l.l.r.l.r.l) (y := Cd43.r.r.r.r.r.l.r.l.l.r.l.l.r.r.r.r.r.l.l.r.r.l.l.r.l.r.r) ((a3.getD a6.toNat 0) ≥ (a1.length : Int)) (by kernel_rfl) (by kernel_rfl) (fun n3 => ?_) (fun n3 => ?_)
           ·rw [if_pos n3] at H
            refine EW.region (id := 21) (ops := Cd43.r.r.r.r.r.l.r.l.l.r.l.l.r.r.r.r.r.l.l.r.r.l.l.r.l.r.l.ops) (by kernel_rfl) ?_
            refine EL.quick 4 [0, 4, 6, 7, 8, 9, 74, 75, 76] [(0, .slice (some a5) a1.length a2), (4, .slice d3 a7.length b5), (6, .int .i64 (mn c0 (a0.getD (0 : Int).toNat 0))), (7, .slice c2 b9.length c3), (8, .int .i64 (a0.getD (0 : Int).toNat 0)), (9, .int .i64 (IntKind.i64.wrap (b0 + b4))), (74, .slice (some c7) a3.length c1), (75, .int .i64 (a3.length : Int)), (76, .int .i64 a6)] (by kernel_rfl) ?_
            refine EL.done (by kernel_rfl) ?_
            refine EQ.pop ?_
            refine EQ.pop ?_
            refine EQ.to ?_
            refine EQ.keep [0, 4, 6, 7, 8, 9, 74, 75, 76] [(0, .slice (some a5) a1.length a2), (4, .slice d3 a7.length b5), (6, .int .i64 (mn c0 (a0.getD (0 : Int).toNat 0))), (7, .slice c2 b9.length c3), (8, .int .i64 (a0.getD (0 : Int).toNat 0)), (9, .int .i64 (IntKind.i64.wrap (b0 + b4))), (74, .slice (some c7) a3.length c1), (75, .int .i64 (a3.length : Int)), (76, .int .i64 a6)] (by kernel_rfl) ?_
            exact fun a ha => ⟨b9, a7, mn c0 (a0.getD (0 : Int).toNat 0), c2, c3, d3, b5, ha, (hS.re [2, 2, 2] [] rfl (sub_cons 0 rfl (sub_cons 0 rfl (sub_tail (sub_tail (sub_self)))))), H⟩
           ·rw [if_neg n3] at H
            refine EW.seq (x := Cd43.r.r.r.r.r.l.r.l.l.r.l.l.r.r.r.r.r.l.l.r.r.l.l.r.l.r.r.l) (y := Cd43.r.r.r.r.r.l.r.l.l.r.l.l.r.r.r.r.r.l.l.r.r.l.l.r.l.r.r.r) (by kernel_rfl) ?_
            refine EW.region (id := 22) (ops := Cd43.r.r.r.r.r.l.r.l.l.r.l.l.r.r.r.r.r.l.l.r.r.l.l.r.l.r.r.l.ops) (by kernel_rfl) ?_
            refine EL.quick 2 [0, 4, 6, 7, 8, 9, 11, 74, 75, 76, 89, 90] [(0, .slice (some a5) a1.length a2), (4, .slice d3 a7.length b5), (6, .int .i64 c0), (7, .slice c2 b9.length c3), (8, .int .i64 (a0.getD (0 : Int).toNat 0)), (9, .int .i64 (IntKind.i64.wrap (b0 + b4))), (11, .int .i64 (a3.getD a6.toNat 0)), (74, .slice (some c7) a3.length c1), (75, .int .i64 (a3.length : Int)), (76, .int .i64 a6), (89, .slice d3 a7.length b5), (90, .int .i64 (a3.getD a6.toNat 0))] (by kernel_rfl) ?_
            obtain ⟨g1, H⟩ := ite_in H
            obtain ⟨g2, H⟩ := ite_in H
            obtain ⟨c4, rfl⟩ := St.rd_some hS (Rd.own 2 3 rfl) g1 g2
            refine EL.of (EO.Y (YO.idx 39 1 c4 a7.length b5 .i64 (a3.getD a6.toNat 0) 91 (by kernel_rfl) (by kernel_rfl) (by kernel_rfl) (by kernel_rfl) g1 g2) ?_)
            refine EL.of (EO.Y (YO.loadEl hS (Kd.int .i64) c4 b5 a7 (Rd.own 2 3 rfl) 0 (encI .i64) encI_of (a3.getD a6.toNat 0) g1 g2 3 1 0 1 rfl (.int .i64 (a7.getD (a3.getD a6.toNat 0).toNat 0)) 92 (by kernel_rfl) (by kernel_rfl) (by kernel_rfl) (by kernel_rfl)) ?_)
            refine EL.quick 2 [0, 4, 6, 7, 8, 9, 11, 74, 75, 76, 88] [(0, .slice (some a5) a1.length a2), (4, .slice (some c4) a7.length b5), (6, .int .i64 c0), (7, .slice c2 b9.length c3), (8, .int .i64 (a0.getD (0 : Int).toNat 0)), (9, .int .i64 (IntKind.i64.wrap (b0 + b4))), (11, .int .i64 (a3.getD a6.toNat 0)), (74, .slice (some c7) a3.length c1), (75, .int .i64 (a3.length : Int)), (76, .int .i64 a6), (88, .bool (decide ((a7.getD (a3.getD a6.toNat 0).toNat 0) < 0)))] (by kernel_rfl) ?_
            refine EL.done (by kernel_rfl) ?_
            refine EQ.code ?_
            refine EW.condP (o := (.tmp 88)) (x := Cd43.r.r.r.r.r.l.r.l.l.r.l.l.r.r.r.r.r.l.l.r.r.l.l.r.l.r.r.r.l) (y := Cd43.r.r.r.r.r.l.r.l.l.r.l.l.r.r.r.r.r.l.l.r.r.l.l.r.l.r.r.r.r) ((a7.getD (a3.getD a6.toNat 0).toNat 0) < 0) (by kernel_rfl) (by kernel_rfl) (fun n4 => ?_) (fun n4 => ?_)
            ·rw [if_pos n4] at H
             refine EW.seq (x := Cd43.r.r.r.r.r.l.r.l.l.r.l.l.r.r.r.r.r.l.l.r.r.l.l.r.l.r.r.r.l.l) (y := Cd43.r.r.r.r.r.l.r.l.l.r.l.l.r.r.r.r.r.l.l.r.r.l.l.r.l.r.r.r.l.r) (by kernel_rfl) ?_
             refine EW.region (id := 23) (ops := Cd43.r.r.r.r.r.l.r.l.l.r.l.l.r.r.r.r.r.l.l.r.r.l.l.r.l.r.r.r.l.l.ops) (by kernel_rfl) ?_
             refine EL.quick 3 [0, 4, 6, 7, 8, 9, 11, 74, 75, 76, 94, 95, 96] [(0, .slice (some a5) a1.length a2), (4, .slice (some c4) a7.length b5), (6, .int .i64 c0), (7, .slice c2 b9.length c3), (8, .int .i64 (a0.getD (0 : Int).toNat 0)), (9, .int .i64 (IntKind.i64.wrap (b0 + b4))), (11, .int .i64 (a3.getD a6.toNat 0)), (74, .slice (some c7) a3.length c1), (75, .int .i64 (a3.length : Int)), (76, .int .i64 a6), (94, .slice (some c4) a7.length b5), (95, .int .i64 (a3.getD a6.toNat 0)), (96, .int .i64 (IntKind.i64.wrap (b0 + b4)))] (by kernel_rfl) ?_
             refine EL.of (EO.Y (YO.idx 39 1 c4 a7.length b5 .i64 (a3.getD a6.toNat 0) 97 (by kernel_rfl) (by kernel_rfl) (by kernel_rfl) (by kernel_rfl) g1 g2) ?_)
             obtain ⟨e2, o3, H⟩ := lt_out H
             refine EL.of (EO.storeEl hS 2 (Kd.int .i64) 3 c4 b5 a7 rfl (a3.getD a6.toNat 0) g1 g2 0 3 1 0 rfl (.int .i64 (IntKind.i64.wrap (b0 + b4))) (IntKind.i64.wrap (b0 + b4)) e2 o3 (Ass.own 3 (Kd.int .i64) (some c7) c1 a3 :: Ass.own 3 (Kd.int .i64) c2 c3 b9 :: Ass.own 3 (Kd.int .i64) (some c4) b5 e2 :: os) (by kernel_rfl) (by kernel_rfl) (by kernel_rfl) (by kernel_rfl) (by kernel_rfl) (by kernel_rfl) (fun w G vs hr h => set_whole h (by kernel_rfl) rfl) rfl ?_)
             intro w hS
             refine EL.keep [0, 4, 6, 7, 8, 9, 11, 74, 75, 76] [(0, .slice (some a5) a1.length a2), (4, .slice (some c4) a7.length b5), (6, .int .i64 c0), (7, .slice c2 b9.length c3), (8, .int .i64 (a0.getD (0 : Int).toNat 0)), (9, .int .i64 (IntKind.i64.wrap (b0 + b4))), (11, .int .i64 (a3.getD a6.toNat 0)), (74, .slice (some c7) a3.length c1), (75, .int .i64 (a3.length : Int)), (76, .int .i64 a6)] (by kernel_rfl) ?_
             refine EL.as' [(0, .slice (some a5) a1.length a2), (4, .slice (some c4) e2.length b5), (6, .int .i64 c0), (7, .slice c2 b9.length c3), (8, .int .i64 (a0.getD (0 : Int).toNat 0)), (9, .int .i64 (IntKind.i64.wrap (b0 + b4))), (11, .int .i64 (a3.getD a6.toNat 0)), (74, .slice (some c7) a3.length c1), (75, .int .i64 (a3.length : Int)), (76, .int .i64 a6)] (by simp only [o3, List.length_set]) ?_
             refine EL.done (by kernel_rfl) ?_
             refine EQ.code ?_
             refine EW.region (id := 24) (ops := Cd43.r.r.r.r.r.l.r.l.l.r.l.l.r.r.r.r.r.l.l.r.r.l.l.r.l.r.r.r.l.r.ops) (by kernel_rfl) ?_
             refine EL.quick 2 [0, 4, 6, 8, 9, 74, 75, 76, 98, 99] [(0, .slice (some a5) a1.length a2), (4, .slice (some c4) e2.length b5), (6, .int .i64 c0), (8, .int .i64 (a0.getD (0 : Int).toNat 0)), (9, .int .i64 (IntKind.i64.wrap (b0 + b4))), (74, .slice (some c7) a3.length c1), (75, .int .i64 (a3.length : Int)), (76, .int .i64 a6), (98, .slice c2 b9.length c3), (99, .int .i64 (a3.getD a6.toNat 0))] (by kernel_rfl) ?_
             obtain ⟨i7, o4, H⟩ := lt_out H
             refine EL.of (EO.lit hS (Kd.int .i64) 3 39 1 #[(0, .int .i64 (a3.getD a6.toNat 0))] [.int .i64 (a3.getD a6.toNat 0)] i7 100 (by kernel_rfl) (by kernel_rfl) (by kernel_rfl) (fun _ => (by kernel_rfl)) (by rw [o4]; rfl) (by kernel_rfl) (fun w G hr => (by rw [o4]; exact ⟨[.int .i64 (a3.getD a6.toNat 0)], [], rfl, rfl, rfl⟩)) ?_)
             intro n9 w hS
             obtain ⟨o8, H⟩ := ite_in H
             obtain ⟨g5, q0, H⟩ := lt_out H
             refine EL.of (EO.append hS 39 39 3 8 2 (Kd.int .i64) c2 c3 b9 rfl (some ⟨n9, 0, none⟩) 1 i7 (Rd.own 0 3 rfl) g5 q0 (fun j1 j3 => Ass.own 3 (Kd.int .i64) (some ⟨n9, 0, none⟩) 1 i7 :: Ass.own 3 (Kd.int .i64) (some c7) c1 a3 :: Ass.own 3 (Kd.int .i64) j1 j3 g5 :: Ass.own 3 (Kd.int .i64) (some c4) b5 e2 :: os) 101 (by kernel_rfl) (by kernel_rfl) (by kernel_rfl) (by kernel_rfl) o8 (fun _ _ => rfl) ?_)
             intro j1 j3 w hS
             refine EL.quick 1 [0, 4, 6, 7, 8, 9, 74, 75, 76] [(0, .slice (some a5) a1.length a2), (4, .slice (some c4) e2.length b5), (6, .int .i64 c0), (7, .slice j1 g5.length j3), (8, .int .i64 (a0.getD (0 : Int).toNat 0)), (9, .int .i64 (IntKind.i64.wrap (b0 + b4))), (74, .slice (some c7) a3.length c1), (75, .int .i64 (a3.length : Int)), (76, .int .i64 a6)] (by kernel_rfl) ?_
             refine EL.done (by kernel_rfl) ?_
             refine EQ.pop ?_
             refine EQ.pop ?_
             refine EQ.to ?_
             refine EQ.keep [0, 4, 6, 7, 8, 9, 74, 75, 76] [(0, .slice (some a5) a1.length a2), (4, .slice (some c4) e2.length b5), (6, .int .i64 c0), (7, .slice j1 g5.length j3), (8, .int .i64 (a0.getD (0 : Int).toNat 0)), (9, .int .i64 (IntKind.i64.wrap (b0 + b4))), (74, .slice (some c7) a3.length c1), (75, .int .i64 (a3.length : Int)), (76, .int .i64 a6)] (by kernel_rfl) ?_
             exact fun a ha => ⟨g5, e2, c0, j1, j3, (some c4), b5, ha, (hS.re [3, 3, 3] [3] rfl (sub_cons 0 rfl (sub_cons 0 rfl (sub_tail (sub_tail (sub_self)))))), H⟩
            ·rw [if_neg n4] at H
             refine EW.seq (x := Cd43.r.r.r.r.r.l.r.l.l.r.l.l.r.r.r.r.r.l.l.r.r.l.l.r.l.r.r.r.r.l) (y := Cd43.r.r.r.r.r.l.r.l.l.r.l.l.r.r.r.r.r.l.l.r.r.l.l.r.l.r.r.r.r.r) (by kernel_rfl) ?_
             refine EW.region (id := 25) (ops := Cd43.r.r.r.r.r.l.r.l.l.r.l.l.r.r.r.r.r.l.l.r.r.l.l.r.l.r.r.r.r.l.ops) (by kernel_rfl) ?_
             refine EL.quick 2 [0, 4, 6, 7, 8, 9, 11, 74, 75, 76, 103, 104] [(0, .slice (some a5) a1.length a2), (4, .slice (some c4) a7.length b5), (6, .int .i64 c0), (7, .slice c2 b9.length c3), (8, .int .i64 (a0.getD (0 : Int).toNat 0)), (9, .int .i64 (IntKind.i64.wrap (b0 + b4))), (11, .int .i64 (a3.getD a6.toNat 0)), (74, .slice (some c7) a3.length c1), (75, .int .i64 (a3.length : Int)), (76, .int .i64 a6), (103, .slice (some c4) a7.length b5), (104, .int .i64 (a3.getD a6.toNat 0))] (by kernel_rfl) ?_
             refine EL.of (EO.Y (YO.idx 39 1 c4 a7.length b5 .i64 (a3.getD a6.toNat 0) 105 (by kernel_rfl) (by kernel_rfl) (by kernel_rfl) (by kernel_rfl) g1 g2) ?_)
             refine EL.of (EO.Y (YO.loadEl hS (Kd.int .i64) c4 b5 a7 (Rd.own 2 3 rfl) 0 (encI .i64) encI_of (a3.getD a6.toNat 0) g1 g2 3 1 0 1 rfl (.int .i64 (a7.getD (a3.getD a6.toNat 0).toNat 0)) 106 (by kernel_rfl) (by kernel_rfl) (by kernel_rfl) (by kernel_rfl)) ?_)
             refine EL.quick 3 [0, 4, 6, 7, 8, 9, 11, 74, 75, 76, 102] [(0, .slice (some a5) a1.length a2), (4, .slice (some c4) a7.length b5), (6, .int .i64 c0), (7, .slice c2 b9.length c3), (8, .int .i64 (a0.getD (0 : Int).toNat 0)), (9, .int .i64 (IntKind.i64.wrap (b0 + b4))), (11, .int .i64 (a3.getD a6.toNat 0)), (74, .slice (some c7) a3.length c1), (75, .int .i64 (a3.length : Int)), (76, .int .i64 a6), (102, .bool (!(decide ((a7.getD (a3.getD a6.toNat 0).toNat 0) = (IntKind.i64.wrap (b0 + b4))))))] (by kernel_rfl) ?_
             refine EL.done (by kernel_rfl) ?_
             refine EQ.code ?_
             refine EW.condQ (b := !(decide ((a7.getD (a3.getD a6.toNat 0).toNat 0) = (IntKind.i64.wrap (b0 + b4))))) (o := (.tmp 102)) (x := Cd43.r.r.r.r.r.l.r.l.l.r.l.l.r.r.r.r.r.l.l.r.r.l.l.r.l.r.r.r.r.r.l) (y := Cd43.r.r.r.r.r.l.r.l.l.r.l.l.r.r.r.r.r.l.l.r.r.l.l.r.l.r.r.r.r.r.r) ((a7.getD (a3.getD a6.toNat 0).toNat 0) = (IntKind.i64.wrap (b0 + b4))) (false) (by kernel_rfl) (by kernel_rfl) ⟨fun h => (by rw [decide_eq_true h] <;> rfl), fun h => (by rw [decide_eq_false h] <;> rfl)⟩ (fun n5 => ?_) (fun n5 => ?_)
             ·rw [if_pos n5] at H
              refine EW.skip (by kernel_rfl) ?_
              refine EQ.pop ?_
              refine EQ.pop ?_
              refine EQ.to ?_
              refine EQ.keep [0, 4, 6, 7, 8, 9, 74, 75, 76] [(0, .slice (some a5) a1.length a2), (4, .slice (some c4) a7.length b5), (6, .int .i64 c0), (7, .slice c2 b9.length c3), (8, .int .i64 (a0.getD (0 : Int).toNat 0)), (9, .int .i64 (IntKind.i64.wrap (b0 + b4))), (74, .slice (some c7) a3.length c1), (75, .int .i64 (a3.length : Int)), (76, .int .i64 a6)] (by kernel_rfl) ?_
              exact fun a ha => ⟨b9, a7, c0, c2, c3, (some c4), b5, ha, (hS.re [2, 2, 2] [] rfl (sub_cons 0 rfl (sub_cons 0 rfl (sub_tail (sub_tail (sub_self)))))), H⟩
             ·rw [if_neg n5] at H
              refine EW.region (id := 26) (ops := Cd43.r.r.r.r.r.l.r.l.l.r.l.l.r.r.r.r.r.l.l.r.r.l.l.r.l.r.r.r.r.r.l.ops) (by kernel_rfl) ?_
              refine EL.quick 4 [0, 4, 6, 7, 8, 9, 74, 75, 76] [(0, .slice (some a5) a1.length a2), (4, .slice (some c4) a7.length b5), (6, .int .i64 (mn c0 (a3.getD a6.toNat 0))), (7, .slice c2 b9.length c3), (8, .int .i64 (a0.getD (0 : Int).toNat 0)), (9, .int .i64 (IntKind.i64.wrap (b0 + b4))), (74, .slice (some c7) a3.length c1), (75, .int .i64 (a3.length : Int)), (76, .int .i64 a6)] (by kernel_rfl) ?_
              refine EL.done (by kernel_rfl) ?_
              refine EQ.pop ?_
              refine EQ.pop ?_
              refine EQ.to ?_
              refine EQ.keep [0, 4, 6, 7, 8, 9, 74, 75, 76] [(0, .slice (some a5) a1.length a2), (4, .slice (some c4) a7.length b5), (6, .int .i64 (mn c0 (a3.getD a6.toNat 0))), (7, .slice c2 b9.length c3), (8, .int .i64 (a0.getD (0 : Int).toNat 0)), (9, .int .i64 (IntKind.i64.wrap (b0 + b4))), (74, .slice (some c7) a3.length c1), (75, .int .i64 (a3.length : Int)), (76, .int .i64 a6)] (by kernel_rfl) ?_
              exact fun a ha => ⟨b9, a7, mn c0 (a3.getD a6.toNat 0), c2, c3, (some c4), b5, ha, (hS.re [2, 2, 2] [] rfl (sub_cons 0 rfl (sub_cons 0 rfl (sub_tail (sub_tail (sub_self)))))), H⟩
          ·obtain ⟨e7, e8, f8, g9, i2, i0, i3, ha, hS, H⟩ := hI
           rw [p7] at H
           (try dsimp only at H)
           refine EW.at ?_ a ha
           clear ha a
           refine EW.region (id := 27) (ops := Cd43.r.r.r.r.r.l.r.l.l.r.l.l.r.r.r.r.r.l.l.r.r.r.ops) (by kernel_rfl) ?_
           refine EL.quick 2 [0, 4, 6, 7, 8, 9, 74, 75, 76] [(0, .slice (some a5) a1.length a2), (4, .slice i0 e8.length i3), (6, .int .i64 f8), (7, .slice g9 e7.length i2), (8, .int .i64 (a0.getD (0 : Int).toNat 0)), (9, .int .i64 (IntKind.i64.wrap (b0 + b4))), (74, .slice e5 a3.length c1), (75, .int .i64 (a3.length : Int)), (76, .int .i64 (IntKind.i64.wrap (a6 + 1)))] (by kernel_rfl) ?_
           refine EL.done (by kernel_rfl) ?_
           refine EQ.to ?_
           refine EQ.keep [0, 4, 6, 7, 8, 9, 74, 75, 76] [(0, .slice (some a5) a1.length a2), (4, .slice i0 e8.length i3), (6, .int .i64 f8), (7, .slice g9 e7.length i2), (8, .int .i64 (a0.getD (0 : Int).toNat 0)), (9, .int .i64 (IntKind.i64.wrap (b0 + b4))), (74, .slice e5 a3.length c1), (75, .int .i64 (a3.length : Int)), (76, .int .i64 (IntKind.i64.wrap (a6 + 1)))] (by kernel_rfl) ?_
           exact fun a ha => ⟨n, Nat.lt_succ_self n, e7, e8, f8, IntKind.i64.wrap (a6 + 1), g9, i2, i0, i3, ha, (hS.re [2, 2, 2] [] rfl (sub_cons 0 rfl (sub_cons 0 rfl (sub_tail (sub_tail (sub_self)))))), H⟩
         ·rw [if_neg i4] at H
          refine EW.exit (id := 4) (by kernel_rfl) ?_
          refine EQ.exitCode ?_
          refine EQ.exitTo ?_
          refine EQ.exitHere ?_
          refine EQ.pop ?_
          refine EQ.to ?_
          refine EQ.keep [0, 4, 6, 7] [(0, .slice (some a5) a1.length a2), (4, .slice d3 a7.length b5), (6, .int .i64 c0), (7, .slice c2 b9.length c3)] (by kernel_rfl) ?_
          exact fun a ha => ⟨b9, a7, c0, c2, c3, d3, b5, ha, (hS.re [2, 2] [2] rfl (sub_cons 0 rfl (sub_tail (sub_tail (sub_self))))), H⟩
     ·obtain ⟨e3, e0, e6, j0, i1, f1, f2, ha, hS, H⟩ := hI
      rw [p5] at H
      (try dsimp only at H)
      refine EW.at ?_ a ha
      clear ha a
      refine EW.region (id := 11) (ops := Cd43.r.r.r.r.r.l.r.l.l.r.r.ops) (by kernel_rfl) ?_
      refine EL.quick 1 [0, 4, 6, 32] [(0, .slice b2 a1.length a2), (4, .slice f1 e0.length f2), (6, .int .i64 e6), (32, .slice j0 e3.length i1)] (by kernel_rfl) ?_
      obtain ⟨q5, H⟩ := ite_in H
      obtain ⟨g6, q1, H⟩ := lt_out H
      refine EL.of (EO.sliceOwn hS (Kd.int .i64) 3 j0 i1 e3 0 rfl (some (.int .i64 1)) none none 1 e3.length i1 g6 (by rw [q1]; exact (slice_lo _ _)) (fun j2 j4 => Ass.own 3 (Kd.int .i64) j2 j4 g6 :: Ass.own 3 (Kd.int .i64) f1 f2 e0 :: os) 39 33 (by kernel_rfl) (by kernel_rfl) (by kernel_rfl) (by kernel_rfl) (rfl) (rfl) ⟨rfl, fun h => by first | rfl | cases h⟩ (by omega) (by omega) (.inl rfl) (fun _ _ => rfl) ?_)
      intro j2 j4 hS
      refine EL.quick 1 [0, 4, 6, 7] [(0, .slice b2 a1.length a2), (4, .slice f1 e0.length f2), (6, .int .i64 e6), (7, .slice j2 g6.length j4)] (by kernel_rfl) ?_
      refine EL.done (by kernel_rfl) ?_
      refine EQ.to ?_
      refine EQ.keep [0, 4, 6, 7] [(0, .slice b2 a1.length a2), (4, .slice f1 e0.length f2), (6, .int .i64 e6), (7, .slice j2 g6.length j4)] (by kernel_rfl) ?_
      exact fun a ha => ⟨n, Nat.lt_succ_self n, g6, e0, e6, j2, j4, f1, f2, ha, (hS.re [1, 1] [] rfl (sub_cons 0 rfl (sub_tail (sub_self)))), H⟩
    ·rw [if_neg m8] at H
     refine EW.exit (id := 2) (by kernel_rfl) ?_
     refine EQ.exitCode ?_
     refine EQ.exitTo ?_
     refine EQ.exitHere ?_
     refine EQ.to ?_
     refine EQ.keep [0, 4, 6] [(0, .slice b2 a1.length a2), (4, .slice e9 a4.length a8), (6, .int .i64 b3)] (by kernel_rfl) ?_
     exact fun a ha => ⟨a0, a4, b3, f9, a9, e9, a8, ha, (hS.re [1, 1] [] rfl (sub_cons 0 rfl (sub_tail (sub_self)))), H⟩
  ·obtain ⟨j5, d2, d9, m1, m2, d5, d6, ha, hS, H⟩ := hI
   rw [p4] at H
   (try dsimp only at H)
   refine EW.at ?_ a ha
   clear ha a
   obtain ⟨m0, p8, H⟩ := lt_out H
   refine EW.cut (x := Cd43.r.r.r.r.r.r.l) (y := Cd43.r.r.r.r.r.r.r) (fun a w => ∃ g7 : Int, Sat 119 [(4, .slice d5 d2.length d6), (6, .int .i64 g7)] a ∧ St B w (Ass.own 3 (Kd.int .i64) m1 m2 j5 :: Ass.own 3 (Kd.int .i64) d5 d6 d2 :: os) (Ro.sl kS32 b2 a2 a1 :: rs) ∧ m0 g7 = some (d7, d8)) (by kernel_rfl) ?_ (fun a w hI => ?_)
   ·refine EW.seq (x := Cd43.r.r.r.r.r.r.l.l) (y := Cd43.r.r.r.r.r.r.l.r) (by kernel_rfl) ?_
    refine EW.region (id := 28) (ops := Cd43.r.r.r.r.r.r.l.l.ops) (by kernel_rfl) ?_
    refine EL.quick 4 [4, 6, 116] [(4, .slice d5 d2.length d6), (6, .int .i64 d9), (116, .bool (decide (d9 = (a1.length : Int))))] (by kernel_rfl) ?_
    refine EL.done (by kernel_rfl) ?_
    refine EQ.code ?_
    refine EW.condP (o := (.tmp 116)) (x := Cd43.r.r.r.r.r.r.l.r.l) (y := Cd43.r.r.r.r.r.r.l.r.r) (d9 = (a1.length : Int)) (by kernel_rfl) (by kernel_rfl) (fun n6 => ?_) (fun n6 => ?_)
    ·rw [if_pos n6] at H
     refine EW.region (id := 29) (ops := Cd43.r.r.r.r.r.r.l.r.l.ops) (by kernel_rfl) ?_
     refine EL.quick 1 [4, 6] [(4, .slice d5 d2.length d6), (6, .int .i64 (-1))] (by kernel_rfl) ?_
     refine EL.done (by kernel_rfl) ?_
     refine EQ.to ?_
     refine EQ.keep [4, 6] [(4, .slice d5 d2.length d6), (6, .int .i64 (-1))] (by kernel_rfl) ?_
     exact fun a ha => ⟨(-1), ha, (hS.re [1, 1] [] rfl (sub_cons 0 rfl (sub_tail (sub_self)))), H⟩
    ·rw [if_neg n6] at H
     refine EW.skip (by kernel_rfl) ?_
     refine EQ.to ?_
     refine EQ.keep [4, 6] [(4, .slice d5 d2.length d6), (6, .int .i64 d9)] (by kernel_rfl) ?_
     exact fun a ha => ⟨d9, ha, (hS.re [1, 1] [] rfl (sub_cons 0 rfl (sub_tail (sub_self)))), H⟩
   ·obtain ⟨g7, ha, hS, H⟩ := hI
    rw [p8] at H
    (try dsimp only at H)
    refine EW.at ?_ a ha
    clear ha a
    refine EW.seq (x := Cd43.r.r.r.r.r.r.r.l) (y := Cd43.r.r.r.r.r.r.r.r) (by kernel_rfl) ?_
    refine EW.region (id := 30) (ops := Cd43.r.r.r.r.r.r.r.l.ops) (by kernel_rfl) ?_
    refine EL.quick 4 [2, 3] [(2, .slice d5 d2.length d6), (3, .int .i64 g7)] (by kernel_rfl) ?_
    refine EL.done (by kernel_rfl) ?_
    refine EQ.code ?_
    refine EW.ret (by kernel_rfl) ?_
    simp only [Option.some.injEq, Prod.mk.injEq] at H
    obtain ⟨rfl, rfl⟩ := H
    exact EQ.leave (.tuple #[.slice d5 d2.length d6, .int .i64 g7]) (by kernel_rfl) ⟨_, rfl, d5, d6, rfl, (hS.re [1] [1] rfl (sub_self))⟩

end Go.Proofs.Ytlcnkngpankkpaa.G
