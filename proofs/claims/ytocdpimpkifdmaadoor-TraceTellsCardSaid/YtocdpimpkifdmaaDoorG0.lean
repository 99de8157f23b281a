import Derived.Test.YtocdpimpkifdmaaDoorProg
import Derived.Test.YtocdpimpkifdmaaDoorFwShort
import Derived.Test.YtocdpimpkifdmaaDoorFwOpen
import Derived.Test.YtocdpimpkifdmaaDoorDoor
import Derived.Test.YtocdpimpkifdmaaDoorFwMapS
namespace Go.Proofs.YtocdpimpkifdmaaDoor.G
open Go Go.Fw Go.RowKit Go.Proofs
set_option linter.unusedVariables false
set_option linter.unusedSimpArgs false

structure S28 where
 f0 : Int
 f1 : Int
 f2 : Int
 f3 : Int
 f4 : Int
 f5 : Int
 f6 : Int
deriving DecidableEq
def zS28 : S28 := ⟨0, 0, 0, 0, 0, 0, 0⟩
def kS28 : Kd S28 := Kd.iso (Kd.prod (Kd.int .i64) (Kd.prod (Kd.int .i64) (Kd.prod (Kd.int .i64) (Kd.prod (Kd.int .i64) (Kd.prod (Kd.int .i32) (Kd.prod (Kd.int .i32) (Kd.prod (Kd.int .i32) Kd.unit))))))) (fun s => (s.f0, s.f1, s.f2, s.f3, s.f4, s.f5, s.f6, ()))
def encS28 (s : S28) : List Value := [ia s.f0, ia s.f1, ia s.f2, ia s.f3, ib s.f4, ib s.f5, ib s.f6]
theorem encS28_of (w : World) (G : Bl) (vs : List Value) (x : S28) (h : kS28.rep w G vs x) : vs = encS28 x := by
 obtain ⟨_, _, rfl, h0, ⟨_, _, rfl, h1, ⟨_, _, rfl, h2, ⟨_, _, rfl, h3, ⟨_, _, rfl, h4, ⟨_, _, rfl, h5, ⟨_, _, rfl, h6, hu⟩⟩⟩⟩⟩⟩⟩ := h
 have h0 := encI_of _ _ _ _ h0
 have h1 := encI_of _ _ _ _ h1
 have h2 := encI_of _ _ _ _ h2
 have h3 := encI_of _ _ _ _ h3
 have h4 := encI_of _ _ _ _ h4
 have h5 := encI_of _ _ _ _ h5
 have h6 := encI_of _ _ _ _ h6
 have hu : _ = [] := hu
 subst hu
 subst h0
 subst h1
 subst h2
 subst h3
 subst h4
 subst h5
 subst h6
 rfl

structure S50 where
 f0 : Int
 f1 : Int
 f2 : Int
 f3 : Int
deriving DecidableEq
def zS50 : S50 := ⟨0, 0, 0, 0⟩
def kS50 : Kd S50 := Kd.iso (Kd.prod (Kd.int .u8) (Kd.prod (Kd.int .u8) (Kd.prod (Kd.int .u8) (Kd.prod (Kd.int .u8) Kd.unit)))) (fun s => (s.f0, s.f1, s.f2, s.f3, ()))
def encS50 (s : S50) : List Value := [ig s.f0, ig s.f1, ig s.f2, ig s.f3]
theorem encS50_of (w : World) (G : Bl) (vs : List Value) (x : S50) (h : kS50.rep w G vs x) : vs = encS50 x := by
 obtain ⟨_, _, rfl, h0, ⟨_, _, rfl, h1, ⟨_, _, rfl, h2, ⟨_, _, rfl, h3, hu⟩⟩⟩⟩ := h
 have h0 := encI_of _ _ _ _ h0
 have h1 := encI_of _ _ _ _ h1
 have h2 := encI_of _ _ _ _ h2
 have h3 := encI_of _ _ _ _ h3
 have hu : _ = [] := hu
 subst hu
 subst h0
 subst h1
 subst h2
 subst h3
 rfl

noncomputable def Cd3 : Code := bodyOf Tryd.f3

noncomputable def Cd11 : Code := bodyOf Tryd.f11

noncomputable def Cd12 : Code := bodyOf Tryd.f12

noncomputable def Cd13 : Code := bodyOf Tryd.f13

noncomputable def Cd14 : Code := bodyOf Tryd.f14

noncomputable def Cd15 : Code := bodyOf Tryd.f15

noncomputable def Cd16 : Code := bodyOf Tryd.f16

noncomputable def Cd17 : Code := bodyOf Tryd.f17

noncomputable def Cd18 : Code := bodyOf Tryd.f18

noncomputable def Cd19 : Code := bodyOf Tryd.f19

noncomputable def Cd20 : Code := bodyOf Tryd.f20

noncomputable def Cd21 : Code := bodyOf Tryd.f21

noncomputable def Cd22 : Code := bodyOf Tryd.f22

noncomputable def Cd23 : Code := bodyOf Tryd.f23

noncomputable def Cd24 : Code := bodyOf Tryd.f24

noncomputable def Cd25 : Code := bodyOf Tryd.f25

noncomputable def Cd26 : Code := bodyOf Tryd.f26

noncomputable def Cd27 : Code := bodyOf Tryd.f27

noncomputable def Cd35 : Code := bodyOf Tryd.f35

noncomputable def Cd43 : Code := bodyOf Tryd.f43

noncomputable def Cd44 : Code := bodyOf Tryd.f44

noncomputable def Cd45 : Code := bodyOf Tryd.f45

noncomputable def Cd46 : Code := bodyOf Tryd.f46

noncomputable def Cd47 : Code := bodyOf Tryd.f47

noncomputable def Cd48 : Code := bodyOf Tryd.f48

noncomputable def Cd49 : Code := bodyOf Tryd.f49

noncomputable def Cd50 : Code := bodyOf Tryd.f50

noncomputable def Cd51 : Code := bodyOf Tryd.f51

noncomputable def Cd53 : Code := bodyOf Tryd.f53

noncomputable def Cd55 : Code := bodyOf Tryd.f55

noncomputable def Cd56 : Code := bodyOf Tryd.f56

noncomputable def Cd57 : Code := bodyOf Tryd.f57

noncomputable def Cd58 : Code := bodyOf Tryd.f58

noncomputable def Cd59 : Code := bodyOf Tryd.f59

noncomputable def Cd60 : Code := bodyOf Tryd.f60

noncomputable def Cd76 : Code := bodyOf Tryd.f76

noncomputable def Cd80 : Code := bodyOf Tryd.f80

noncomputable def Cd81 : Code := bodyOf Tryd.f81

noncomputable def Cd91 : Code := bodyOf Tryd.f91

/-! ### confidant/trace.New: function 13 -/
def trace_New.f (K : Nat)  : Option (List S28) := some ([] : List S28)
set_option maxRecDepth 100000 in
theorem trace_New.calls {K : Nat} {x27 : List S28} {B w : World} {os : List Ass} {rs : List Ro} (H : trace_New.f K = some x27) (hS : St B w (os) (rs)) :
  Calls Tryd.prog 13 [].toArray w (fun en w' => ∃ v, en = .returned v ∧ ∃ g26 : Nat, ∃ A28 : Option Addr, ∃ C29 : Nat, v = pt g26 0 ∧ St B w' (Ass.box 75 g26 [sv A28 C29 x27] :: Ass.own 28 kS28 A28 C29 x27 :: os) (rs)) := by
 unfold trace_New.f at H
 refine calls_of_EW (args := []) (c := Cd13) 3 Tryd.func13 (by kernel_rfl) (by kernel_rfl) (by kernel_rfl) ?_
 refine EW.sq (by kernel_rfl) ?_
 refine EW.rg (by kernel_rfl) ?_
 refine EL.quick 1 [] [] (by kernel_rfl) ?_
 refine EL.done (by kernel_rfl) ?_
 refine EQ.code ?_
 refine EW.sq (by kernel_rfl) ?_
 refine EW.rg (by kernel_rfl) ?_
 refine EL.quick 1 [1] [(1, ag [sv none 0 ([] : List S28)])] (by kernel_rfl) ?_
 refine EL.of (EO.box hS 75 (ag [sv none 0 ([] : List S28)]) [sv none 0 ([] : List S28)] 2 (by kernel_rfl) (by kernel_rfl) (by kernel_rfl) (by first | rfl | kernel_rfl) ?_)
 intro g31 w hS
 refine EL.quick 1 [0] [(0, pt g31 0)] (by kernel_rfl) ?_
 refine EL.done (by kernel_rfl) ?_
 refine EQ.code ?_
 refine EW.ret (by kernel_rfl) ?_
 have hS := St.nilO hS 28 kS28
 obtain rfl := Option.some.inj H
 exact EQ.leave (pt g31 0) (by kernel_rfl) ⟨_, rfl, g31, none, 0, rfl, (hS.re [0, 1] [] rfl (sub_self))⟩

/-! ### (*confidant/trace.Trace).Add: function 14 -/
def trace_Trace_Add.f (K : Nat) (l48 : List S28) (l52 : List S28) : Option (List S28) := if (l48.length + l52.length) * 48 ≤ 140737488355328 then (lt (l48 ++ l52) fun l63 => (some l63)) else none
set_option maxRecDepth 100000 in
theorem trace_Trace_Add.calls {K : Nat} {l48 : List S28} {l52 : List S28} {g47 : Nat} {A49 : Option Addr} {C50 : Nat} {A53 : Option Addr} {C54 : Nat} {x59 : List S28} {B w : World} {os : List Ass} {rs : List Ro} (H : trace_Trace_Add.f K l48 l52 = some x59) (hS : St B w (Ass.box 75 g47 [sv A49 C50 l48] :: Ass.own 28 kS28 A49 C50 l48 :: os) (Ro.sl kS28 A53 C54 l52 :: rs)) :
  Calls Tryd.prog 14 [pt g47 0, sv A53 C54 l52].toArray w (fun en w' => ∃ v, en = .returned v ∧ ∃ A60 : Option Addr, ∃ C61 : Nat, v = .tuple #[] ∧ St B w' (Ass.box 75 g47 [sv A60 C61 x59] :: Ass.own 28 kS28 A60 C61 x59 :: os) (Ro.sl kS28 A53 C54 l52 :: rs)) := by
 unfold trace_Trace_Add.f at H
 refine calls_of_EW (args := [pt g47 0, sv A53 C54 l52]) (c := Cd14) 13 Tryd.func14 (by kernel_rfl) (by kernel_rfl) (by kernel_rfl) ?_
 refine EW.rg (by kernel_rfl) ?_
 refine EL.quick 4 [1, 4, 7] [(1, sv A53 C54 l52), (4, pt g47 0), (7, pt g47 0)] (by kernel_rfl) ?_
 refine EL.of (EO.Y (YO.loadBox hS 0 rfl 22 0 1 (sv A49 C50 l48) 8 (by kernel_rfl) (by kernel_rfl) (by kernel_rfl) (by kernel_rfl)) ?_)
 refine EL.quick 1 [4, 8, 9] [(4, pt g47 0), (8, sv A49 C50 l48), (9, sv A53 C54 l52)] (by kernel_rfl) ?_
 obtain ⟨h62, H⟩ := ite_in H
 obtain ⟨l63, hl63, H⟩ := lt_out H
 refine EL.of (EO.append hS 22 22 28 48 1 kS28 A49 C50 l48 rfl A53 C54 l52 (Rd.ro 0 rfl) l63 hl63 (fun A64 C65 => Ass.box 75 g47 [sv A49 C50 l48] :: Ass.own 28 kS28 A64 C65 l63 :: os) 10 (by kernel_rfl) (by kernel_rfl) (by kernel_rfl) (by kernel_rfl) h62 (fun _ _ => rfl) ?_)
 intro A64 C65 w hS
 refine EL.quick 2 [10, 12] [(10, sv A64 C65 l63), (12, pt g47 0)] (by kernel_rfl) ?_
 refine EL.of (EO.storeBox (os' := Ass.box 75 g47 [sv A64 C65 l63] :: Ass.own 28 kS28 A64 C65 l63 :: os) hS 0 rfl 22 0 (sv A64 C65 l63) [sv A64 C65 l63] (by kernel_rfl) (by kernel_rfl) (by kernel_rfl) (by kernel_rfl) (by kernel_rfl) (by kernel_rfl) rfl rfl ?_)
 intro w hS
 refine EL.done (by kernel_rfl) ?_
 obtain rfl := Option.some.inj H
 exact EQ.leaveN (.tuple #[]) (by kernel_rfl) ⟨_, rfl, A64, C65, rfl, (hS.re [1, 1] [] rfl (sub_self))⟩

/-! ### slices.Clone[[]confidant/api.Event,confidant/api.Event]: function 46 -/
def api_Event.f (K : Nat) (l82 : List S28) : Option (List S28) := lt ([] : List S28) fun a0 => (if (a0.length + l82.length) * 48 ≤ 140737488355328 then (lt (a0 ++ l82) fun a1 => (some a1)) else none)
set_option maxRecDepth 100000 in
theorem api_Event.calls {K : Nat} {l82 : List S28} {A83 : Option Addr} {C84 : Nat} {x99 : List S28} {B w : World} {os : List Ass} {rs : List Ro} (H : api_Event.f K l82 = some x99) (hS : St B w (os) (Ro.sl kS28 A83 C84 l82 :: rs)) :
  Calls Tryd.prog 46 [sv A83 C84 l82].toArray w (fun en w' => ∃ v, en = .returned v ∧ ∃ a5 : Option Addr, ∃ a6 : Nat, v = sv a5 a6 x99 ∧ St B w' (Ass.own 28 kS28 a5 a6 x99 :: os) (Ro.sl kS28 A83 C84 l82 :: rs)) := by
 unfold api_Event.f at H
 refine calls_of_EW (args := [sv A83 C84 l82]) (c := Cd46) 8 Tryd.func46 (by kernel_rfl) (by kernel_rfl) (by kernel_rfl) ?_
 refine EW.sq (by kernel_rfl) ?_
 refine EW.rg (by kernel_rfl) ?_
 refine EL.quick 1 [0] [(0, sv A83 C84 l82)] (by kernel_rfl) ?_
 refine EL.done (by kernel_rfl) ?_
 refine EQ.code ?_
 refine EW.sq (by kernel_rfl) ?_
 refine EW.sq (by kernel_rfl) ?_
 refine EW.rg (by kernel_rfl) ?_
 refine EL.quick 1 [0, 3] [(0, sv A83 C84 l82), (3, sv A83 C84 l82)] (by kernel_rfl) ?_
 rcases A83 with _ | a4
 ·have a9 := St.rd_nil hS (Rd.ro 0 rfl)
  have H : (some ([] : List S28)) = some x99 := by simpa [lt, a9] using H
  refine EL.quick 1 [0, 4] [(0, sv none C84 l82), (4, .bool (true))] (by kernel_rfl) ?_
  refine EL.done (by kernel_rfl) ?_
  refine EQ.code ?_
  refine EW.cdT (by kernel_rfl) (by kernel_rfl) ?_
  refine EW.sq (by kernel_rfl) ?_
  refine EW.rg (by kernel_rfl) ?_
  refine EL.quick 1 [2] [(2, sv none 0 ([] : List S28))] (by kernel_rfl) ?_
  refine EL.done (by kernel_rfl) ?_
  refine EQ.code ?_
  refine EW.ret (by kernel_rfl) ?_
  refine EQ.ret ?_
  have hS := St.nilO hS 28 kS28
  obtain rfl := Option.some.inj H
  exact EQ.leave (sv none 0 ([] : List S28)) (by kernel_rfl) ⟨_, rfl, none, 0, rfl, (hS.re [0] [] rfl (sub_self))⟩
 ·refine EL.quick 1 [0, 4] [(0, sv (some a4) C84 l82), (4, .bool (false))] (by kernel_rfl) ?_
  refine EL.done (by kernel_rfl) ?_
  refine EQ.code ?_
  refine EW.cdF (by kernel_rfl) (by kernel_rfl) ?_
  refine EW.skip (by kernel_rfl) ?_
  refine EQ.code ?_
  refine EW.sq (by kernel_rfl) ?_
  refine EW.rg (by kernel_rfl) ?_
  obtain ⟨a0, a8, H⟩ := lt_out H
  refine EL.of (EO.lit hS kS28 28 22 0 #[] [] a0 5 (by kernel_rfl) (by kernel_rfl) (by kernel_rfl) (fun _ => (by kernel_rfl)) (by rw [a8]; rfl) (by kernel_rfl) (fun w G hr => (by rw [a8]; exact rfl)) ?_)
  intro a7 w hS
  refine EL.quick 1 [5, 6] [(5, sv (some ⟨a7, 0, none⟩) 0 a0), (6, sv (some a4) C84 l82)] (by kernel_rfl) ?_
  obtain ⟨b0, H⟩ := ite_in H
  obtain ⟨a1, b1, H⟩ := lt_out H
  refine EL.of (EO.append hS 22 22 28 48 0 kS28 (some ⟨a7, 0, none⟩) 0 a0 rfl (some a4) C84 l82 (Rd.ro 0 rfl) a1 b1 (fun a2 a3 => Ass.own 28 kS28 a2 a3 a1 :: os) 7 (by kernel_rfl) (by kernel_rfl) (by kernel_rfl) (by kernel_rfl) b0 (fun _ _ => rfl) ?_)
  intro a2 a3 w hS
  refine EL.quick 1 [2] [(2, sv a2 a3 a1)] (by kernel_rfl) ?_
  refine EL.done (by kernel_rfl) ?_
  refine EQ.code ?_
  refine EW.ret (by kernel_rfl) ?_
  obtain rfl := Option.some.inj H
  exact EQ.leave (sv a2 a3 a1) (by kernel_rfl) ⟨_, rfl, a2, a3, rfl, (hS.re [0] [] rfl (sub_self))⟩

/-! ### (*confidant/trace.Trace).All: function 18 -/
def trace_Trace_All.f (K : Nat) (l78 : List S28) : Option (List S28 × List S28) := b1 (api_Event.f K l78) fun (a0 : List S28) => (some (l78, a0))
set_option maxRecDepth 100000 in
theorem trace_Trace_All.calls {K : Nat} {l78 : List S28} {g77 : Nat} {A79 : Option Addr} {C80 : Nat} {a3 : List S28} {a4 : List S28} {B w : World} {os : List Ass} {rs : List Ro} (H : trace_Trace_All.f K l78 = some (a3, a4)) (hS : St B w (Ass.box 75 g77 [sv A79 C80 l78] :: Ass.own 28 kS28 A79 C80 l78 :: os) (rs)) :
  Calls Tryd.prog 18 [pt g77 0].toArray w (fun en w' => ∃ v, en = .returned v ∧ ∃ a5 : Option Addr, ∃ a7 : Nat, ∃ a6 : Option Addr, ∃ a8 : Nat, v = sv a6 a8 a4 ∧ St B w' (Ass.box 75 g77 [sv a5 a7 a3] :: Ass.own 28 kS28 a6 a8 a4 :: os) (Ro.sl kS28 a5 a7 a3 :: rs)) := by
 unfold trace_Trace_All.f at H
 refine calls_of_EW (args := [pt g77 0]) (c := Cd18) 8 Tryd.func18 (by kernel_rfl) (by kernel_rfl) (by kernel_rfl) ?_
 refine EW.sq (by kernel_rfl) ?_
 refine EW.rg (by kernel_rfl) ?_
 refine EL.quick 1 [0] [(0, pt g77 0)] (by kernel_rfl) ?_
 refine EL.done (by kernel_rfl) ?_
 refine EQ.code ?_
 refine EW.sq (by kernel_rfl) ?_
 refine EW.rg (by kernel_rfl) ?_
 refine EL.quick 3 [5] [(5, pt g77 0)] (by kernel_rfl) ?_
 refine EL.of (EO.Y (YO.loadBox hS 0 rfl 22 0 1 (sv A79 C80 l78) 6 (by kernel_rfl) (by kernel_rfl) (by kernel_rfl) (by kernel_rfl)) ?_)
 have hS := St.fr hS 1 rfl
 have hS : St B _ (Ass.box 75 g77 [sv A79 C80 l78] :: os) (Ro.sl kS28 A79 C80 l78 :: rs) := hS.re [] [] rfl (sub_cons 0 rfl (sub_tail (sub_self)))
 obtain ⟨a0, a9, H⟩ := b1_out H
 have hq := api_Event.calls a9 hS
 refine EL.of (EO.callD 46 [sv A79 C80 l78] _ 7 (by kernel_rfl) (by kernel_rfl) (by kernel_rfl) hq ?_)
 rintro v w ⟨a1, a2, rfl, hS⟩
 refine EL.quick 1 [2] [(2, sv a1 a2 a0)] (by kernel_rfl) ?_
 refine EL.done (by kernel_rfl) ?_
 refine EQ.code ?_
 refine EW.ret (by kernel_rfl) ?_
 simp only [sv, Option.some.injEq, Prod.mk.injEq] at H
 obtain ⟨rfl, rfl⟩ := H
 exact EQ.leave (sv a1 a2 a0) (by kernel_rfl) ⟨_, rfl, A79, C80, a1, a2, rfl, (hS.re [0, 1] [] rfl (sub_cons 0 rfl (sub_tail (sub_self))))⟩

/-! ### confidant/pack.Put: function 43 -/
def pack_Put.l2 (K : Nat) (a0 : List Int) (a1 : Int) (b9 : (List Int) → Option (List Int)) : Nat → (List Int) → Int → Option (List Int)
 | 0, _, _ => none
 | n + 1, b0, a5 => if a5 > 0 then (if (IntKind.i64.wrap (7 * a5)) < 0 then none else (lt ([bO .u8 (IntKind.u8.wrap (sR .u64 (a0.getD a1.toNat 0) (IntKind.i64.wrap (7 * a5)))) 128] : List Int) fun c7 => (if (b0.length + c7.length) * 1 ≤ 140737488355328 then (lt (b0 ++ c7) fun b6 => (pack_Put.l2 K a0 a1 b9 n b6 (IntKind.i64.wrap (a5 - 1)))) else none))) else (b9 b0)
def pack_Put.l1 (K : Nat) (a0 : List Int) (a1 : Int) (b8 : Int → Option (List Int)) : Nat → Int → Option (List Int)
 | 0, _ => none
 | n + 1, a8 => if (IntKind.i64.wrap (7 * (IntKind.i64.wrap (a8 + 1)))) < 0 then none else (if (sR .u64 (a0.getD a1.toNat 0) (IntKind.i64.wrap (7 * (IntKind.i64.wrap (a8 + 1))))) = 0 then (b8 a8) else (pack_Put.l1 K a0 a1 b8 n (IntKind.i64.wrap (a8 + 1))))
def pack_Put.l0 (K : Nat) (a0 : List Int) : Nat → (List Int) → Int → Option (List Int)
 | 0, _, _ => none
 | n + 1, a4, a1 => if a1 < (a0.length : Int) then (lt (fun (d2 : List Int) (b4 : List Int) => (pack_Put.l0 K a0 n b4 (IntKind.i64.wrap (a1 + 1)))) fun d7 => (if 0 ≤ a1 then (lt (fun (c1 : Int) => (lt (fun (b5 : List Int) => (lt ([bN .u8 (IntKind.u8.wrap (a0.getD a1.toNat 0)) 128] : List Int) fun b7 => (if (b5.length + b7.length) * 1 ≤ 140737488355328 then (lt (b5 ++ b7) fun c0 => (d7 b7 c0)) else none))) fun b9 => (pack_Put.l2 K a0 a1 b9 K a4 c1))) fun b8 => (pack_Put.l1 K a0 a1 b8 K 0)) else none)) else (some a4)
def pack_Put.f (K : Nat) (a0 : List Int) : Option (List Int) := pack_Put.l0 K a0 K ([] : List Int) 0
set_option maxRecDepth 100000 in
theorem pack_Put.calls {K : Nat} {a0 : List Int} {a9 : Option Addr} {a2 : Nat} {b3 : List Int} {B w : World} {os : List Ass} {rs : List Ro} (H : pack_Put.f K a0 = some b3) (hS : St B w (os) (Ro.sl (Kd.int .u64) a9 a2 a0 :: rs)) :
  Calls Tryd.prog 43 [sv a9 a2 a0].toArray w (fun en w' => ∃ v, en = .returned v ∧ ∃ d8 : Option Addr, ∃ e0 : Nat, v = sv d8 e0 b3 ∧ St B w' (Ass.own 5 (Kd.int .u8) d8 e0 b3 :: os) (Ro.sl (Kd.int .u64) a9 a2 a0 :: rs)) := by
 unfold pack_Put.f at H
 refine calls_of_EW (args := [sv a9 a2 a0]) (c := Cd43) 42 Tryd.func43 (by kernel_rfl) (by kernel_rfl) (by kernel_rfl) ?_
 refine EW.sq (by kernel_rfl) ?_
 refine EW.rg (by kernel_rfl) ?_
 refine EL.quick 1 [0] [(0, sv a9 a2 a0)] (by kernel_rfl) ?_
 refine EL.done (by kernel_rfl) ?_
 refine EQ.code ?_
 refine EW.sq (by kernel_rfl) ?_
 refine EW.rg (by kernel_rfl) ?_
 refine EL.quick 1 [0, 3] [(0, sv a9 a2 a0), (3, sv none 0 ([] : List Int))] (by kernel_rfl) ?_
 refine EL.done (by kernel_rfl) ?_
 refine EQ.code ?_
 refine EW.sq (by kernel_rfl) ?_
 refine EW.sq (by kernel_rfl) ?_
 refine EW.rg (by kernel_rfl) ?_
 refine EL.quick 3 [3, 7, 8, 9] [(3, sv none 0 ([] : List Int)), (7, sv a9 a2 a0), (8, ia (a0.length : Int)), (9, ia 0)] (by kernel_rfl) ?_
 refine EL.done (by kernel_rfl) ?_
 refine EQ.code ?_
 refine EW.bl 0 (by kernel_rfl) ?_
 have hS := St.nilO hS 5 (Kd.int .u8)
 refine EW.lp (fun n a w => ∃ a4 : List Int, ∃ a1 : Int, ∃ a6 : Option Addr, ∃ a7 : Nat, Sat 42 [(3, sv a6 a7 a4), (7, sv a9 a2 a0), (8, ia (a0.length : Int)), (9, ia a1)] a ∧ St B w (Ass.own 5 (Kd.int .u8) a6 a7 a4 :: os) (Ro.sl (Kd.int .u64) a9 a2 a0 :: rs) ∧ pack_Put.l0 K a0 n a4 a1 = some b3) K (by kernel_rfl) ?_ (fun n a w hI => ?_)
 ·refine EQ.keep [3, 7, 8, 9] [(3, sv none 0 ([] : List Int)), (7, sv a9 a2 a0), (8, ia (a0.length : Int)), (9, ia 0)] (by kernel_rfl) ?_
  exact fun a ha => ⟨([] : List Int), 0, none, 0, ha, (hS.re [0] [] rfl (sub_cons 0 rfl (sub_tail (sub_self)))), H⟩
 obtain ⟨a4, a1, a6, a7, ha, hS, H⟩ := hI
 obtain _ | n := n
 ·simp [pack_Put.l0] at H
 rw [pack_Put.l0.eq_2] at H
 refine EW.at ?_ a ha
 clear ha a
 refine EW.sq (by kernel_rfl) ?_
 refine EW.rg (by kernel_rfl) ?_
 refine EL.quick 1 [3, 7, 8, 9, 10] [(3, sv a6 a7 a4), (7, sv a9 a2 a0), (8, ia (a0.length : Int)), (9, ia a1), (10, .bool (decide (a1 < (a0.length : Int))))] (by kernel_rfl) ?_
 refine EL.done (by kernel_rfl) ?_
 refine EQ.code ?_
 refine EW.sq (by kernel_rfl) ?_
 refine EW.cdP (a1 < (a0.length : Int)) (by kernel_rfl) (by kernel_rfl) (fun c6 => ?_) (fun c6 => ?_)
 ·rw [if_pos c6] at H
  refine EW.skip (by kernel_rfl) ?_
  refine EQ.code ?_
  obtain ⟨d7, e9, H⟩ := lt_out H
  refine EW.ct (fun a w => ∃ d2 : List Int, ∃ b4 : List Int, ∃ d9 : Option Addr, ∃ e1 : Nat, ∃ c2 : Option Addr, ∃ c4 : Nat, Sat 42 [(3, sv c2 c4 b4), (7, sv a9 a2 a0), (8, ia (a0.length : Int)), (9, ia a1)] a ∧ St B w (Ass.own 5 (Kd.int .u8) d9 e1 d2 :: Ass.own 5 (Kd.int .u8) c2 c4 b4 :: os) (Ro.sl (Kd.int .u64) a9 a2 a0 :: rs) ∧ d7 d2 b4 = some b3) (by kernel_rfl) ?_ (fun a w hI => ?_)
  ·refine EW.bl 1 (by kernel_rfl) ?_
   refine EW.sq (by kernel_rfl) ?_
   refine EW.rg (by kernel_rfl) ?_
   obtain ⟨d4, H⟩ := ite_in H
   obtain ⟨a3, rfl⟩ := St.rd_some hS (Rd.ro 0 rfl) d4 c6
   refine EL.of (EO.Y (YO.idx 115 1 a3 a0.length a2 .i64 a1 11 (by kernel_rfl) (by kernel_rfl) (by kernel_rfl) (by kernel_rfl) d4 c6) ?_)
   refine EL.of (EO.Y (YO.loadEl hS (Kd.int .u64) a3 a2 a0 (Rd.ro 0 rfl) 0 (encI .u64) encI_of a1 d4 c6 77 1 0 1 rfl (ic (a0.getD a1.toNat 0)) 12 (by kernel_rfl) (by kernel_rfl) (by kernel_rfl) (by kernel_rfl)) ?_)
   refine EL.quick 1 [3, 5, 7, 8, 9] [(3, sv a6 a7 a4), (5, ic (a0.getD a1.toNat 0)), (7, sv (some a3) a2 a0), (8, ia (a0.length : Int)), (9, ia a1)] (by kernel_rfl) ?_
   refine EL.done (by kernel_rfl) ?_
   refine EQ.code ?_
   refine EW.sq (by kernel_rfl) ?_
   refine EW.rg (by kernel_rfl) ?_
   refine EL.quick 1 [3, 5, 6, 7, 8, 9] [(3, sv a6 a7 a4), (5, ic (a0.getD a1.toNat 0)), (6, ia 0), (7, sv (some a3) a2 a0), (8, ia (a0.length : Int)), (9, ia a1)] (by kernel_rfl) ?_
   refine EL.done (by kernel_rfl) ?_
   refine EQ.code ?_
   obtain ⟨b8, f0, H⟩ := lt_out H
   refine EW.ct (fun a w => ∃ c1 : Int, Sat 42 [(3, sv a6 a7 a4), (5, ic (a0.getD a1.toNat 0)), (6, ia c1), (7, sv (some a3) a2 a0), (8, ia (a0.length : Int)), (9, ia a1)] a ∧ St B w (Ass.own 5 (Kd.int .u8) a6 a7 a4 :: os) (Ro.sl (Kd.int .u64) (some a3) a2 a0 :: rs) ∧ b8 c1 = some b3) (by kernel_rfl) ?_ (fun a w hI => ?_)
   ·refine EW.bl 2 (by kernel_rfl) ?_
    refine EW.lp (fun n a w => ∃ a8 : Int, Sat 42 [(3, sv a6 a7 a4), (5, ic (a0.getD a1.toNat 0)), (6, ia a8), (7, sv (some a3) a2 a0), (8, ia (a0.length : Int)), (9, ia a1)] a ∧ St B w (Ass.own 5 (Kd.int .u8) a6 a7 a4 :: os) (Ro.sl (Kd.int .u64) (some a3) a2 a0 :: rs) ∧ pack_Put.l1 K a0 a1 b8 n a8 = some b3) K (by kernel_rfl) ?_ (fun n a w hI => ?_)
    ·refine EQ.keep [3, 5, 6, 7, 8, 9] [(3, sv a6 a7 a4), (5, ic (a0.getD a1.toNat 0)), (6, ia 0), (7, sv (some a3) a2 a0), (8, ia (a0.length : Int)), (9, ia a1)] (by kernel_rfl) ?_
     exact fun a ha => ⟨0, ha, (hS.re [0] [] rfl (sub_cons 0 rfl (sub_tail (sub_self)))), H⟩
    obtain ⟨a8, ha, hS, H⟩ := hI
    obtain _ | n := n
    ·simp [pack_Put.l1] at H
    rw [pack_Put.l1.eq_2] at H
    refine EW.at ?_ a ha
    clear ha a
    refine EW.sq (by kernel_rfl) ?_
    refine EW.sq (by kernel_rfl) ?_
    refine EW.rg (by kernel_rfl) ?_
    refine EL.quick 4 [3, 5, 6, 7, 8, 9, 13, 16] [(3, sv a6 a7 a4), (5, ic (a0.getD a1.toNat 0)), (6, ia a8), (7, sv (some a3) a2 a0), (8, ia (a0.length : Int)), (9, ia a1), (13, ic (a0.getD a1.toNat 0)), (16, ia (IntKind.i64.wrap (7 * (IntKind.i64.wrap (a8 + 1)))))] (by kernel_rfl) ?_
    obtain ⟨e5, H⟩ := ite_out H
    refine EL.of (EO.Y (YO.shift .shr .u64 .i64 (a0.getD a1.toNat 0) (IntKind.i64.wrap (7 * (IntKind.i64.wrap (a8 + 1)))) (sR .u64 (a0.getD a1.toNat 0) (IntKind.i64.wrap (7 * (IntKind.i64.wrap (a8 + 1))))) 17 (by kernel_rfl) (by kernel_rfl) (by kernel_rfl) e5 (by first | exact .inl ⟨rfl, rfl⟩ | exact .inr ⟨rfl, rfl⟩)) ?_)
    refine EL.quick 1 [3, 5, 6, 7, 8, 9, 18] [(3, sv a6 a7 a4), (5, ic (a0.getD a1.toNat 0)), (6, ia a8), (7, sv (some a3) a2 a0), (8, ia (a0.length : Int)), (9, ia a1), (18, .bool (!(decide ((sR .u64 (a0.getD a1.toNat 0) (IntKind.i64.wrap (7 * (IntKind.i64.wrap (a8 + 1))))) = 0))))] (by kernel_rfl) ?_
    refine EL.done (by kernel_rfl) ?_
    refine EQ.code ?_
    refine EW.cdQ (b := !(decide ((sR .u64 (a0.getD a1.toNat 0) (IntKind.i64.wrap (7 * (IntKind.i64.wrap (a8 + 1))))) = 0))) ((sR .u64 (a0.getD a1.toNat 0) (IntKind.i64.wrap (7 * (IntKind.i64.wrap (a8 + 1))))) = 0) (false) (by kernel_rfl) (by kernel_rfl) ⟨fun h => (by rw [decide_eq_true h] <;> rfl), fun h => (by rw [decide_eq_false h] <;> rfl)⟩ (fun d5 => ?_) (fun d5 => ?_)
    ·rw [if_pos d5] at H
     refine EW.exit (id := 2) (by kernel_rfl) ?_
     refine EQ.exitCode ?_
     refine EQ.exitTo ?_
     refine EQ.exitHere ?_
     refine EQ.to ?_
     refine EQ.keep [3, 5, 6, 7, 8, 9] [(3, sv a6 a7 a4), (5, ic (a0.getD a1.toNat 0)), (6, ia a8), (7, sv (some a3) a2 a0), (8, ia (a0.length : Int)), (9, ia a1)] (by kernel_rfl) ?_
     exact fun a ha => ⟨a8, ha, (hS.re [0] [] rfl (sub_cons 0 rfl (sub_tail (sub_self)))), H⟩
    rw [if_neg d5] at H
    refine EW.skip (by kernel_rfl) ?_
    refine EQ.code ?_
    refine EW.bl 3 (by kernel_rfl) ?_
    refine EW.rg (by kernel_rfl) ?_
    refine EL.quick 3 [3, 5, 6, 7, 8, 9] [(3, sv a6 a7 a4), (5, ic (a0.getD a1.toNat 0)), (6, ia (IntKind.i64.wrap (a8 + 1))), (7, sv (some a3) a2 a0), (8, ia (a0.length : Int)), (9, ia a1)] (by kernel_rfl) ?_
    refine EL.done (by kernel_rfl) ?_
    refine EQ.pop ?_
    refine EQ.to ?_
    refine EQ.keep [3, 5, 6, 7, 8, 9] [(3, sv a6 a7 a4), (5, ic (a0.getD a1.toNat 0)), (6, ia (IntKind.i64.wrap (a8 + 1))), (7, sv (some a3) a2 a0), (8, ia (a0.length : Int)), (9, ia a1)] (by kernel_rfl) ?_
    exact fun a ha => ⟨n, Nat.lt_succ_self n, IntKind.i64.wrap (a8 + 1), ha, (hS.re [0] [] rfl (sub_cons 0 rfl (sub_tail (sub_self)))), H⟩
   obtain ⟨c1, ha, hS, H⟩ := hI
   rw [f0] at H
   (try dsimp only at H)
   refine EW.at ?_ a ha
   clear ha a
   obtain ⟨b9, f1, H⟩ := lt_out H
   refine EW.ct (fun a w => ∃ b5 : List Int, ∃ c8 : Option Addr, ∃ d0 : Nat, Sat 42 [(3, sv c8 d0 b5), (5, ic (a0.getD a1.toNat 0)), (7, sv (some a3) a2 a0), (8, ia (a0.length : Int)), (9, ia a1)] a ∧ St B w (Ass.own 5 (Kd.int .u8) c8 d0 b5 :: os) (Ro.sl (Kd.int .u64) (some a3) a2 a0 :: rs) ∧ b9 b5 = some b3) (by kernel_rfl) ?_ (fun a w hI => ?_)
   ·refine EW.bl 4 (by kernel_rfl) ?_
    refine EW.lp (fun n a w => ∃ b0 : List Int, ∃ a5 : Int, ∃ b1 : Option Addr, ∃ b2 : Nat, Sat 42 [(3, sv b1 b2 b0), (5, ic (a0.getD a1.toNat 0)), (6, ia a5), (7, sv (some a3) a2 a0), (8, ia (a0.length : Int)), (9, ia a1)] a ∧ St B w (Ass.own 5 (Kd.int .u8) b1 b2 b0 :: os) (Ro.sl (Kd.int .u64) (some a3) a2 a0 :: rs) ∧ pack_Put.l2 K a0 a1 b9 n b0 a5 = some b3) K (by kernel_rfl) ?_ (fun n a w hI => ?_)
    ·refine EQ.keep [3, 5, 6, 7, 8, 9] [(3, sv a6 a7 a4), (5, ic (a0.getD a1.toNat 0)), (6, ia c1), (7, sv (some a3) a2 a0), (8, ia (a0.length : Int)), (9, ia a1)] (by kernel_rfl) ?_
     exact fun a ha => ⟨a4, c1, a6, a7, ha, (hS.re [0] [] rfl (sub_cons 0 rfl (sub_tail (sub_self)))), H⟩
    obtain ⟨b0, a5, b1, b2, ha, hS, H⟩ := hI
    obtain _ | n := n
    ·simp [pack_Put.l2] at H
    rw [pack_Put.l2.eq_2] at H
    refine EW.at ?_ a ha
    clear ha a
    refine EW.sq (by kernel_rfl) ?_
    refine EW.sq (by kernel_rfl) ?_
    refine EW.rg (by kernel_rfl) ?_
    refine EL.quick 2 [3, 5, 6, 7, 8, 9, 22] [(3, sv b1 b2 b0), (5, ic (a0.getD a1.toNat 0)), (6, ia a5), (7, sv (some a3) a2 a0), (8, ia (a0.length : Int)), (9, ia a1), (22, .bool (decide (a5 > 0)))] (by kernel_rfl) ?_
    refine EL.done (by kernel_rfl) ?_
    refine EQ.code ?_
    refine EW.cdP (a5 > 0) (by kernel_rfl) (by kernel_rfl) (fun d6 => ?_) (fun d6 => ?_)
    ·rw [if_pos d6] at H
     refine EW.skip (by kernel_rfl) ?_
     refine EQ.code ?_
     refine EW.sq (by kernel_rfl) ?_
     refine EW.bl 5 (by kernel_rfl) ?_
     refine EW.rg (by kernel_rfl) ?_
     refine EL.quick 4 [5, 6, 7, 8, 9, 25, 26, 28] [(5, ic (a0.getD a1.toNat 0)), (6, ia a5), (7, sv (some a3) a2 a0), (8, ia (a0.length : Int)), (9, ia a1), (25, sv b1 b2 b0), (26, ic (a0.getD a1.toNat 0)), (28, ia (IntKind.i64.wrap (7 * a5)))] (by kernel_rfl) ?_
     obtain ⟨e6, H⟩ := ite_out H
     refine EL.of (EO.Y (YO.shift .shr .u64 .i64 (a0.getD a1.toNat 0) (IntKind.i64.wrap (7 * a5)) (sR .u64 (a0.getD a1.toNat 0) (IntKind.i64.wrap (7 * a5))) 29 (by kernel_rfl) (by kernel_rfl) (by kernel_rfl) e6 (by first | exact .inl ⟨rfl, rfl⟩ | exact .inr ⟨rfl, rfl⟩)) ?_)
     refine EL.quick 2 [5, 6, 7, 8, 9, 25, 31] [(5, ic (a0.getD a1.toNat 0)), (6, ia a5), (7, sv (some a3) a2 a0), (8, ia (a0.length : Int)), (9, ia a1), (25, sv b1 b2 b0), (31, ig (bO .u8 (IntKind.u8.wrap (sR .u64 (a0.getD a1.toNat 0) (IntKind.i64.wrap (7 * a5)))) 128))] (by kernel_rfl) ?_
     obtain ⟨c7, e3, H⟩ := lt_out H
     refine EL.of (EO.lit hS (Kd.int .u8) 5 33 1 #[(0, ig (bO .u8 (IntKind.u8.wrap (sR .u64 (a0.getD a1.toNat 0) (IntKind.i64.wrap (7 * a5)))) 128))] [ig (bO .u8 (IntKind.u8.wrap (sR .u64 (a0.getD a1.toNat 0) (IntKind.i64.wrap (7 * a5)))) 128)] c7 32 (by kernel_rfl) (by kernel_rfl) (by kernel_rfl) (fun _ => (by kernel_rfl)) (by rw [e3]; rfl) (by kernel_rfl) (fun w G hr => (by rw [e3]; exact ⟨[ig (bO .u8 (IntKind.u8.wrap (sR .u64 (a0.getD a1.toNat 0) (IntKind.i64.wrap (7 * a5)))) 128)], [], rfl, rfl, rfl⟩)) ?_)
     intro e2 w hS
     obtain ⟨e7, H⟩ := ite_in H
     obtain ⟨b6, f2, H⟩ := lt_out H
     refine EL.of (EO.append hS 33 33 5 1 1 (Kd.int .u8) b1 b2 b0 rfl (some ⟨e2, 0, none⟩) 1 c7 (Rd.own 0 5 rfl) b6 f2 (fun c3 c5 => Ass.own 5 (Kd.int .u8) (some ⟨e2, 0, none⟩) 1 c7 :: Ass.own 5 (Kd.int .u8) c3 c5 b6 :: os) 33 (by kernel_rfl) (by kernel_rfl) (by kernel_rfl) (by kernel_rfl) e7 (fun _ _ => rfl) ?_)
     intro c3 c5 w hS
     refine EL.quick 1 [3, 5, 6, 7, 8, 9] [(3, sv c3 c5 b6), (5, ic (a0.getD a1.toNat 0)), (6, ia a5), (7, sv (some a3) a2 a0), (8, ia (a0.length : Int)), (9, ia a1)] (by kernel_rfl) ?_
     refine EL.done (by kernel_rfl) ?_
     refine EQ.pop ?_
     refine EQ.code ?_
     refine EW.rg (by kernel_rfl) ?_
     refine EL.quick 3 [3, 5, 6, 7, 8, 9] [(3, sv c3 c5 b6), (5, ic (a0.getD a1.toNat 0)), (6, ia (IntKind.i64.wrap (a5 - 1))), (7, sv (some a3) a2 a0), (8, ia (a0.length : Int)), (9, ia a1)] (by kernel_rfl) ?_
     refine EL.done (by kernel_rfl) ?_
     refine EQ.to ?_
     refine EQ.keep [3, 5, 6, 7, 8, 9] [(3, sv c3 c5 b6), (5, ic (a0.getD a1.toNat 0)), (6, ia (IntKind.i64.wrap (a5 - 1))), (7, sv (some a3) a2 a0), (8, ia (a0.length : Int)), (9, ia a1)] (by kernel_rfl) ?_
     exact fun a ha => ⟨n, Nat.lt_succ_self n, b6, IntKind.i64.wrap (a5 - 1), c3, c5, ha, (hS.re [1] [1] rfl (sub_cons 0 rfl (sub_tail (sub_self)))), H⟩
    rw [if_neg d6] at H
    refine EW.exit (id := 4) (by kernel_rfl) ?_
    refine EQ.exitCode ?_
    refine EQ.exitTo ?_
    refine EQ.exitHere ?_
    refine EQ.to ?_
    refine EQ.keep [3, 5, 7, 8, 9] [(3, sv b1 b2 b0), (5, ic (a0.getD a1.toNat 0)), (7, sv (some a3) a2 a0), (8, ia (a0.length : Int)), (9, ia a1)] (by kernel_rfl) ?_
    exact fun a ha => ⟨b0, b1, b2, ha, (hS.re [0] [] rfl (sub_cons 0 rfl (sub_tail (sub_self)))), H⟩
   obtain ⟨b5, c8, d0, ha, hS, H⟩ := hI
   rw [f1] at H
   (try dsimp only at H)
   refine EW.at ?_ a ha
   clear ha a
   refine EW.rg (by kernel_rfl) ?_
   refine EL.quick 4 [7, 8, 9, 34, 37] [(7, sv (some a3) a2 a0), (8, ia (a0.length : Int)), (9, ia a1), (34, sv c8 d0 b5), (37, ig (bN .u8 (IntKind.u8.wrap (a0.getD a1.toNat 0)) 128))] (by kernel_rfl) ?_
   obtain ⟨b7, e4, H⟩ := lt_out H
   refine EL.of (EO.lit hS (Kd.int .u8) 5 33 1 #[(0, ig (bN .u8 (IntKind.u8.wrap (a0.getD a1.toNat 0)) 128))] [ig (bN .u8 (IntKind.u8.wrap (a0.getD a1.toNat 0)) 128)] b7 38 (by kernel_rfl) (by kernel_rfl) (by kernel_rfl) (fun _ => (by kernel_rfl)) (by rw [e4]; rfl) (by kernel_rfl) (fun w G hr => (by rw [e4]; exact ⟨[ig (bN .u8 (IntKind.u8.wrap (a0.getD a1.toNat 0)) 128)], [], rfl, rfl, rfl⟩)) ?_)
   intro d3 w hS
   obtain ⟨e8, H⟩ := ite_in H
   obtain ⟨c0, f3, H⟩ := lt_out H
   refine EL.of (EO.append hS 33 33 5 1 1 (Kd.int .u8) c8 d0 b5 rfl (some ⟨d3, 0, none⟩) 1 b7 (Rd.own 0 5 rfl) c0 f3 (fun c9 d1 => Ass.own 5 (Kd.int .u8) (some ⟨d3, 0, none⟩) 1 b7 :: Ass.own 5 (Kd.int .u8) c9 d1 c0 :: os) 39 (by kernel_rfl) (by kernel_rfl) (by kernel_rfl) (by kernel_rfl) e8 (fun _ _ => rfl) ?_)
   intro c9 d1 w hS
   refine EL.quick 1 [3, 7, 8, 9] [(3, sv c9 d1 c0), (7, sv (some a3) a2 a0), (8, ia (a0.length : Int)), (9, ia a1)] (by kernel_rfl) ?_
   refine EL.done (by kernel_rfl) ?_
   refine EQ.pop ?_
   refine EQ.to ?_
   refine EQ.keep [3, 7, 8, 9] [(3, sv c9 d1 c0), (7, sv (some a3) a2 a0), (8, ia (a0.length : Int)), (9, ia a1)] (by kernel_rfl) ?_
   exact fun a ha => ⟨b7, c0, (some ⟨d3, 0, none⟩), 1, c9, d1, ha, (hS.re [1, 1] [] rfl (sub_cons 0 rfl (sub_tail (sub_self)))), H⟩
  obtain ⟨d2, b4, d9, e1, c2, c4, ha, hS, H⟩ := hI
  rw [e9] at H
  (try dsimp only at H)
  refine EW.at ?_ a ha
  clear ha a
  refine EW.rg (by kernel_rfl) ?_
  refine EL.quick 2 [3, 7, 8, 9] [(3, sv c2 c4 b4), (7, sv a9 a2 a0), (8, ia (a0.length : Int)), (9, ia (IntKind.i64.wrap (a1 + 1)))] (by kernel_rfl) ?_
  refine EL.done (by kernel_rfl) ?_
  refine EQ.to ?_
  refine EQ.keep [3, 7, 8, 9] [(3, sv c2 c4 b4), (7, sv a9 a2 a0), (8, ia (a0.length : Int)), (9, ia (IntKind.i64.wrap (a1 + 1)))] (by kernel_rfl) ?_
  exact fun a ha => ⟨n, Nat.lt_succ_self n, b4, IntKind.i64.wrap (a1 + 1), c2, c4, ha, (hS.re [1] [1] rfl (sub_cons 0 rfl (sub_tail (sub_self)))), H⟩
 rw [if_neg c6] at H
 refine EW.exit (id := 0) (by kernel_rfl) ?_
 refine EQ.exitCode ?_
 refine EQ.exitTo ?_
 refine EQ.exitHere ?_
 refine EQ.code ?_
 refine EW.sq (by kernel_rfl) ?_
 refine EW.rg (by kernel_rfl) ?_
 refine EL.quick 2 [2] [(2, sv a6 a7 a4)] (by kernel_rfl) ?_
 refine EL.done (by kernel_rfl) ?_
 refine EQ.code ?_
 refine EW.ret (by kernel_rfl) ?_
 obtain rfl := Option.some.inj H
 exact EQ.leave (sv a6 a7 a4) (by kernel_rfl) ⟨_, rfl, a6, a7, rfl, (hS.re [0] [] rfl (sub_self))⟩

/-! ### confidant/trace.Right$1: function 51 -/
def trace_Right_1.f (K : Nat) (a0 : Int) (a2 : Int) (a1 : Int) : Option Bool := if a0 ≥ a2 then (some (decide (a0 ≤ a1))) else (some false)
set_option maxRecDepth 100000 in
theorem trace_Right_1.calls {K : Nat} {a0 : Int} {a2 : Int} {a1 : Int} {a4 : Bool} {B w : World} {os : List Ass} {rs : List Ro} (H : trace_Right_1.f K a0 a2 a1 = some a4) (hS : St B w (os) (rs)) :
  Calls Tryd.prog 51 [ia a0, ia a2, ia a1].toArray w (fun en w' => ∃ v, en = .returned v ∧ v = .bool (a4) ∧ St B w' (os) (rs)) := by
 unfold trace_Right_1.f at H
 refine calls_of_EW (args := [ia a0, ia a2, ia a1]) (c := Cd51) 15 Tryd.func51 (by kernel_rfl) (by kernel_rfl) (by kernel_rfl) ?_
 refine EW.sq (by kernel_rfl) ?_
 refine EW.rg (by kernel_rfl) ?_
 refine EL.quick 1 [0, 1, 2] [(0, ia a0), (1, ia a2), (2, ia a1)] (by kernel_rfl) ?_
 refine EL.done (by kernel_rfl) ?_
 refine EQ.code ?_
 refine EW.sq (by kernel_rfl) ?_
 refine EW.rg (by kernel_rfl) ?_
 refine EL.quick 4 [0, 2, 10] [(0, ia a0), (2, ia a1), (10, .bool (decide (a0 ≥ a2)))] (by kernel_rfl) ?_
 by_cases a3 : a0 ≥ a2
 ·rw [if_pos a3] at H
  refine EL.keep [0, 2, 10] [(0, ia a0), (2, ia a1), (10, .bool (decide (a0 ≥ a2)))] (by kernel_rfl) ?_
  refine EL.as' [(0, ia a0), (2, ia a1), (10, .bool (true))] (by simp only [dec_t a3, Bool.not_true, Bool.not_false]) ?_
  refine EL.quick 5 [6] [(6, .bool (decide (a0 ≤ a1)))] (by kernel_rfl) ?_
  refine EL.done (by kernel_rfl) ?_
  refine EQ.code ?_
  refine EW.ret (by kernel_rfl) ?_
  obtain rfl := Option.some.inj H
  exact EQ.leave (.bool (decide (a0 ≤ a1))) (by kernel_rfl) ⟨_, rfl, rfl, (hS.re [] [] rfl (sub_self))⟩
 rw [if_neg a3] at H
 refine EL.keep [0, 2, 10] [(0, ia a0), (2, ia a1), (10, .bool (decide (a0 ≥ a2)))] (by kernel_rfl) ?_
 refine EL.as' [(0, ia a0), (2, ia a1), (10, .bool (false))] (by simp only [dec_f a3, Bool.not_true, Bool.not_false]) ?_
 refine EL.quick 5 [6] [(6, .bool (false))] (by kernel_rfl) ?_
 refine EL.done (by kernel_rfl) ?_
 refine EQ.code ?_
 refine EW.ret (by kernel_rfl) ?_
 obtain rfl := Option.some.inj H
 exact EQ.leave (.bool (false)) (by kernel_rfl) ⟨_, rfl, rfl, (hS.re [] [] rfl (sub_self))⟩

/-! ### confidant/trace.Right: function 23 -/
def trace_Right.f (K : Nat) (a1 : S28) : Option Bool := b1 (trace_Right_1.f K a1.f0 0 65536) fun (a2 : Bool) => (if a2 = true then (b1 (trace_Right_1.f K a1.f1 0 15) fun (a3 : Bool) => (if a3 = true then (b1 (trace_Right_1.f K a1.f2 1 11) fun (a4 : Bool) => (if a4 = true then (b1 (trace_Right_1.f K a1.f3 0 7) fun (a5 : Bool) => (if a5 = true then (some (decide (a1.f4 ≥ 0))) else (some false))) else (some false))) else (some false))) else (some false))
set_option maxRecDepth 100000 in
theorem trace_Right.calls {K : Nat} {a1 : S28} {b0 : Bool} {B w : World} {os : List Ass} {rs : List Ro} (H : trace_Right.f K a1 = some b0) (hS : St B w (os) (rs)) :
  Calls Tryd.prog 23 [ag (encS28 a1)].toArray w (fun en w' => ∃ v, en = .returned v ∧ v = .bool (b0) ∧ St B w' (os) (rs)) := by
 unfold trace_Right.f at H
 refine calls_of_EW (args := [ag (encS28 a1)]) (c := Cd23) 31 Tryd.func23 (by kernel_rfl) (by kernel_rfl) (by kernel_rfl) ?_
 refine EW.sq (by kernel_rfl) ?_
 refine EW.rg (by kernel_rfl) ?_
 refine EL.of (EO.box hS 28 (ag (encS28 a1)) (encS28 a1) 1 (by kernel_rfl) (by kernel_rfl) (by kernel_rfl) (by first | rfl | kernel_rfl) ?_)
 intro a0 w hS
 refine EL.quick 1 [1] [(1, pt a0 0)] (by kernel_rfl) ?_
 refine EL.done (by kernel_rfl) ?_
 refine EQ.code ?_
 refine EW.sq (by kernel_rfl) ?_
 refine EW.rg (by kernel_rfl) ?_
 refine EL.quick 1 [1, 3] [(1, pt a0 0), (3, .func (.func 51) #[] #[])] (by kernel_rfl) ?_
 refine EL.done (by kernel_rfl) ?_
 refine EQ.code ?_
 refine EW.sq (by kernel_rfl) ?_
 refine EW.rg (by kernel_rfl) ?_
 refine EL.quick 2 [1, 3, 4, 5] [(1, pt a0 0), (3, .func (.func 51) #[] #[]), (4, .func (.func 51) #[] #[]), (5, pt a0 0)] (by kernel_rfl) ?_
 refine EL.of (EO.Y (YO.loadBox hS 0 rfl 3 0 1 (ia a1.f0) 6 (by kernel_rfl) (by kernel_rfl) (by kernel_rfl) (by kernel_rfl)) ?_)
 obtain ⟨a2, b2, H⟩ := b1_out H
 have hq := trace_Right_1.calls b2 hS
 refine EL.of (EO.callD 51 [ia a1.f0, ia 0, ia 65536] _ 7 (by kernel_rfl) (by kernel_rfl) (by kernel_rfl) hq ?_)
 rintro v w ⟨rfl, hS⟩
 refine EL.quick 1 [1, 3, 8] [(1, pt a0 0), (3, .func (.func 51) #[] #[]), (8, .bool (a2))] (by kernel_rfl) ?_
 by_cases a6 : a2 = true
 ·rw [if_pos a6] at H
  refine EL.keep [1, 3, 8] [(1, pt a0 0), (3, .func (.func 51) #[] #[]), (8, .bool (a2))] (by kernel_rfl) ?_
  refine EL.as' [(1, pt a0 0), (3, .func (.func 51) #[] #[]), (8, .bool (true))] (by simp only [encS28, a6, Bool.not_true, Bool.not_false]) ?_
  refine EL.quick 2 [1, 3, 8, 9, 10] [(1, pt a0 0), (3, .func (.func 51) #[] #[]), (8, .bool (true)), (9, .func (.func 51) #[] #[]), (10, pt a0 1)] (by kernel_rfl) ?_
  refine EL.of (EO.Y (YO.loadBox hS 0 rfl 3 1 1 (ia a1.f1) 11 (by kernel_rfl) (by kernel_rfl) (by kernel_rfl) (by kernel_rfl)) ?_)
  obtain ⟨a3, b3, H⟩ := b1_out H
  have hq := trace_Right_1.calls b3 hS
  refine EL.of (EO.callD 51 [ia a1.f1, ia 0, ia 15] _ 12 (by kernel_rfl) (by kernel_rfl) (by kernel_rfl) hq ?_)
  rintro v w ⟨rfl, hS⟩
  refine EL.quick 2 [1, 3, 14] [(1, pt a0 0), (3, .func (.func 51) #[] #[]), (14, .bool (a3))] (by kernel_rfl) ?_
  by_cases a7 : a3 = true
  ·rw [if_pos a7] at H
   refine EL.keep [1, 3, 14] [(1, pt a0 0), (3, .func (.func 51) #[] #[]), (14, .bool (a3))] (by kernel_rfl) ?_
   refine EL.as' [(1, pt a0 0), (3, .func (.func 51) #[] #[]), (14, .bool (true))] (by simp only [encS28, a7, Bool.not_true, Bool.not_false]) ?_
   refine EL.quick 2 [1, 3, 14, 15, 16] [(1, pt a0 0), (3, .func (.func 51) #[] #[]), (14, .bool (true)), (15, .func (.func 51) #[] #[]), (16, pt a0 2)] (by kernel_rfl) ?_
   refine EL.of (EO.Y (YO.loadBox hS 0 rfl 3 2 1 (ia a1.f2) 17 (by kernel_rfl) (by kernel_rfl) (by kernel_rfl) (by kernel_rfl)) ?_)
   obtain ⟨a4, b4, H⟩ := b1_out H
   have hq := trace_Right_1.calls b4 hS
   refine EL.of (EO.callD 51 [ia a1.f2, ia 1, ia 11] _ 18 (by kernel_rfl) (by kernel_rfl) (by kernel_rfl) hq ?_)
   rintro v w ⟨rfl, hS⟩
   refine EL.quick 2 [1, 3, 20] [(1, pt a0 0), (3, .func (.func 51) #[] #[]), (20, .bool (a4))] (by kernel_rfl) ?_
   by_cases a8 : a4 = true
   ·rw [if_pos a8] at H
    refine EL.keep [1, 3, 20] [(1, pt a0 0), (3, .func (.func 51) #[] #[]), (20, .bool (a4))] (by kernel_rfl) ?_
    refine EL.as' [(1, pt a0 0), (3, .func (.func 51) #[] #[]), (20, .bool (true))] (by simp only [encS28, a8, Bool.not_true, Bool.not_false]) ?_
    refine EL.quick 2 [1, 20, 21, 22] [(1, pt a0 0), (20, .bool (true)), (21, .func (.func 51) #[] #[]), (22, pt a0 3)] (by kernel_rfl) ?_
    refine EL.of (EO.Y (YO.loadBox hS 0 rfl 3 3 1 (ia a1.f3) 23 (by kernel_rfl) (by kernel_rfl) (by kernel_rfl) (by kernel_rfl)) ?_)
    obtain ⟨a5, b5, H⟩ := b1_out H
    have hq := trace_Right_1.calls b5 hS
    refine EL.of (EO.callD 51 [ia a1.f3, ia 0, ia 7] _ 24 (by kernel_rfl) (by kernel_rfl) (by kernel_rfl) hq ?_)
    rintro v w ⟨rfl, hS⟩
    refine EL.quick 2 [1, 26] [(1, pt a0 0), (26, .bool (a5))] (by kernel_rfl) ?_
    by_cases a9 : a5 = true
    ·rw [if_pos a9] at H
     refine EL.keep [1, 26] [(1, pt a0 0), (26, .bool (a5))] (by kernel_rfl) ?_
     refine EL.as' [(1, pt a0 0), (26, .bool (true))] (by simp only [encS28, a9, Bool.not_true, Bool.not_false]) ?_
     refine EL.quick 1 [26, 27] [(26, .bool (true)), (27, pt a0 4)] (by kernel_rfl) ?_
     refine EL.of (EO.Y (YO.loadBox hS 0 rfl 21 4 1 (ib a1.f4) 28 (by kernel_rfl) (by kernel_rfl) (by kernel_rfl) (by kernel_rfl)) ?_)
     refine EL.quick 3 [2] [(2, .bool (decide (a1.f4 ≥ 0)))] (by kernel_rfl) ?_
     refine EL.done (by kernel_rfl) ?_
     refine EQ.code ?_
     refine EW.ret (by kernel_rfl) ?_
     obtain rfl := Option.some.inj H
     exact EQ.leave (.bool (decide (a1.f4 ≥ 0))) (by kernel_rfl) ⟨_, rfl, rfl, (hS.re [] [0] rfl (sub_self))⟩
    rw [if_neg a9] at H
    refine EL.keep [1, 26] [(1, pt a0 0), (26, .bool (a5))] (by kernel_rfl) ?_
    refine EL.as' [(1, pt a0 0), (26, .bool (false))] (by simp only [encS28, (Bool.eq_false_iff.2 a9), Bool.not_true, Bool.not_false]) ?_
    refine EL.quick 5 [2] [(2, .bool (false))] (by kernel_rfl) ?_
    refine EL.done (by kernel_rfl) ?_
    refine EQ.code ?_
    refine EW.ret (by kernel_rfl) ?_
    obtain rfl := Option.some.inj H
    exact EQ.leave (.bool (false)) (by kernel_rfl) ⟨_, rfl, rfl, (hS.re [] [0] rfl (sub_self))⟩
   rw [if_neg a8] at H
   refine EL.keep [1, 3, 20] [(1, pt a0 0), (3, .func (.func 51) #[] #[]), (20, .bool (a4))] (by kernel_rfl) ?_
   refine EL.as' [(1, pt a0 0), (3, .func (.func 51) #[] #[]), (20, .bool (false))] (by simp only [encS28, (Bool.eq_false_iff.2 a8), Bool.not_true, Bool.not_false]) ?_
   refine EL.quick 11 [2] [(2, .bool (false))] (by kernel_rfl) ?_
   refine EL.done (by kernel_rfl) ?_
   refine EQ.code ?_
   refine EW.ret (by kernel_rfl) ?_
   obtain rfl := Option.some.inj H
   exact EQ.leave (.bool (false)) (by kernel_rfl) ⟨_, rfl, rfl, (hS.re [] [0] rfl (sub_self))⟩
  rw [if_neg a7] at H
  refine EL.keep [1, 3, 14] [(1, pt a0 0), (3, .func (.func 51) #[] #[]), (14, .bool (a3))] (by kernel_rfl) ?_
  refine EL.as' [(1, pt a0 0), (3, .func (.func 51) #[] #[]), (14, .bool (false))] (by simp only [encS28, (Bool.eq_false_iff.2 a7), Bool.not_true, Bool.not_false]) ?_
  refine EL.quick 17 [2] [(2, .bool (false))] (by kernel_rfl) ?_
  refine EL.done (by kernel_rfl) ?_
  refine EQ.code ?_
  refine EW.ret (by kernel_rfl) ?_
  obtain rfl := Option.some.inj H
  exact EQ.leave (.bool (false)) (by kernel_rfl) ⟨_, rfl, rfl, (hS.re [] [0] rfl (sub_self))⟩
 rw [if_neg a6] at H
 refine EL.keep [1, 3, 8] [(1, pt a0 0), (3, .func (.func 51) #[] #[]), (8, .bool (a2))] (by kernel_rfl) ?_
 refine EL.as' [(1, pt a0 0), (3, .func (.func 51) #[] #[]), (8, .bool (false))] (by simp only [encS28, (Bool.eq_false_iff.2 a6), Bool.not_true, Bool.not_false]) ?_
 refine EL.quick 23 [2] [(2, .bool (false))] (by kernel_rfl) ?_
 refine EL.done (by kernel_rfl) ?_
 refine EQ.code ?_
 refine EW.ret (by kernel_rfl) ?_
 obtain rfl := Option.some.inj H
 exact EQ.leave (.bool (false)) (by kernel_rfl) ⟨_, rfl, rfl, (hS.re [] [0] rfl (sub_self))⟩

/-! ### confidant/trace.Put: function 15 -/
def trace_Put.l0 (K : Nat) (a0 : List S28) : Nat → (List Int) → Int → Option (List Int)
 | 0, _, _ => none
 | n + 1, a3, a1 => if a1 < (a0.length : Int) then (if 0 ≤ a1 then (b1 (trace_Right.f K (a0.getD a1.toNat zS28)) fun (b7 : Bool) => (if b7 = true then (lt ([IntKind.u64.wrap ((a0.getD a1.toNat zS28).f0), IntKind.u64.wrap ((a0.getD a1.toNat zS28).f1), IntKind.u64.wrap ((a0.getD a1.toNat zS28).f2), IntKind.u64.wrap ((a0.getD a1.toNat zS28).f3), IntKind.u64.wrap ((a0.getD a1.toNat zS28).f4), IntKind.u64.wrap (IntKind.u32.wrap ((a0.getD a1.toNat zS28).f5)), IntKind.u64.wrap (IntKind.u32.wrap ((a0.getD a1.toNat zS28).f6))] : List Int) fun b6 => (b1 (pack_Put.f K b6) fun (b8 : List Int) => (if (a3.length + b8.length) * 1 ≤ 140737488355328 then (lt (a3 ++ b8) fun a9 => (trace_Put.l0 K a0 n a9 (IntKind.i64.wrap (a1 + 1)))) else none))) else (some ([] : List Int)))) else none) else (some a3)
def trace_Put.f (K : Nat) (a0 : List S28) : Option (List Int) := lt ([IntKind.u64.wrap (a0.length : Int)] : List Int) fun b0 => (b1 (pack_Put.f K b0) fun (b5 : List Int) => (trace_Put.l0 K a0 K b5 0))
set_option maxRecDepth 100000 in
theorem trace_Put.calls {K : Nat} {a0 : List S28} {a8 : Option Addr} {a2 : Nat} {c2 : List Int} {B w : World} {os : List Ass} {rs : List Ro} (H : trace_Put.f K a0 = some c2) (hS : St B w (os) (Ro.sl kS28 a8 a2 a0 :: rs)) :
  Calls Tryd.prog 15 [sv a8 a2 a0].toArray w (fun en w' => ∃ v, en = .returned v ∧ ∃ c5 : Option Addr, ∃ c7 : Nat, v = sv c5 c7 c2 ∧ St B w' (Ass.own 5 (Kd.int .u8) c5 c7 c2 :: os) (Ro.sl kS28 a8 a2 a0 :: rs)) := by
 unfold trace_Put.f at H
 refine calls_of_EW (args := [sv a8 a2 a0]) (c := Cd15) 49 Tryd.func15 (by kernel_rfl) (by kernel_rfl) (by kernel_rfl) ?_
 refine EW.sq (by kernel_rfl) ?_
 refine EW.rg (by kernel_rfl) ?_
 refine EL.quick 1 [0] [(0, sv a8 a2 a0)] (by kernel_rfl) ?_
 refine EL.done (by kernel_rfl) ?_
 refine EQ.code ?_
 refine EW.sq (by kernel_rfl) ?_
 refine EW.rg (by kernel_rfl) ?_
 refine EL.quick 3 [0, 8] [(0, sv a8 a2 a0), (8, ic (IntKind.u64.wrap (a0.length : Int)))] (by kernel_rfl) ?_
 obtain ⟨b0, d0, H⟩ := lt_out H
 refine EL.of (EO.lit hS (Kd.int .u64) 77 115 1 #[(0, ic (IntKind.u64.wrap (a0.length : Int)))] [ic (IntKind.u64.wrap (a0.length : Int))] b0 9 (by kernel_rfl) (by kernel_rfl) (by kernel_rfl) (fun _ => (by kernel_rfl)) (by rw [d0]; rfl) (by kernel_rfl) (fun w G hr => (by rw [d0]; exact ⟨[ic (IntKind.u64.wrap (a0.length : Int))], [], rfl, rfl, rfl⟩)) ?_)
 intro c1 w hS
 have hS := St.fr hS 0 rfl
 have hS : St B _ (os) (Ro.sl (Kd.int .u64) (some ⟨c1, 0, none⟩) 1 b0 :: Ro.sl kS28 a8 a2 a0 :: rs) := hS.re [] [] rfl (sub_cons 0 rfl (sub_tail (sub_self)))
 obtain ⟨b5, d3, H⟩ := b1_out H
 have hq := pack_Put.calls d3 hS
 refine EL.of (EO.callD 43 [sv (some ⟨c1, 0, none⟩) 1 b0] _ 10 (by kernel_rfl) (by kernel_rfl) (by kernel_rfl) hq ?_)
 rintro v w ⟨b9, c0, rfl, hS⟩
 refine EL.quick 1 [0, 3] [(0, sv a8 a2 a0), (3, sv b9 c0 b5)] (by kernel_rfl) ?_
 refine EL.done (by kernel_rfl) ?_
 refine EQ.code ?_
 refine EW.sq (by kernel_rfl) ?_
 refine EW.sq (by kernel_rfl) ?_
 refine EW.rg (by kernel_rfl) ?_
 refine EL.quick 3 [3, 11, 12, 13] [(3, sv b9 c0 b5), (11, sv a8 a2 a0), (12, ia (a0.length : Int)), (13, ia 0)] (by kernel_rfl) ?_
 refine EL.done (by kernel_rfl) ?_
 refine EQ.code ?_
 refine EW.bl 0 (by kernel_rfl) ?_
 refine EW.lp (fun n a w => ∃ a3 : List Int, ∃ a1 : Int, ∃ a4 : Option Addr, ∃ a5 : Nat, Sat 49 [(3, sv a4 a5 a3), (11, sv a8 a2 a0), (12, ia (a0.length : Int)), (13, ia a1)] a ∧ St B w (Ass.own 5 (Kd.int .u8) a4 a5 a3 :: os) (Ro.sl (Kd.int .u64) (some ⟨c1, 0, none⟩) 1 b0 :: Ro.sl kS28 a8 a2 a0 :: rs) ∧ trace_Put.l0 K a0 n a3 a1 = some c2) K (by kernel_rfl) ?_ (fun n a w hI => ?_)
 ·refine EQ.keep [3, 11, 12, 13] [(3, sv b9 c0 b5), (11, sv a8 a2 a0), (12, ia (a0.length : Int)), (13, ia 0)] (by kernel_rfl) ?_
  exact fun a ha => ⟨b5, 0, b9, c0, ha, (hS.re [0] [] rfl (sub_cons 0 rfl (sub_cons 1 rfl (sub_tail (sub_tail (sub_self)))))), H⟩
 obtain ⟨a3, a1, a4, a5, ha, hS, H⟩ := hI
 obtain _ | n := n
 ·simp [trace_Put.l0] at H
 rw [trace_Put.l0.eq_2] at H
 refine EW.at ?_ a ha
 clear ha a
 refine EW.sq (by kernel_rfl) ?_
 refine EW.rg (by kernel_rfl) ?_
 refine EL.quick 1 [3, 11, 12, 13, 14] [(3, sv a4 a5 a3), (11, sv a8 a2 a0), (12, ia (a0.length : Int)), (13, ia a1), (14, .bool (decide (a1 < (a0.length : Int))))] (by kernel_rfl) ?_
 refine EL.done (by kernel_rfl) ?_
 refine EQ.code ?_
 refine EW.sq (by kernel_rfl) ?_
 refine EW.cdP (a1 < (a0.length : Int)) (by kernel_rfl) (by kernel_rfl) (fun b4 => ?_) (fun b4 => ?_)
 ·rw [if_pos b4] at H
  refine EW.skip (by kernel_rfl) ?_
  refine EQ.code ?_
  refine EW.sq (by kernel_rfl) ?_
  refine EW.bl 1 (by kernel_rfl) ?_
  refine EW.sq (by kernel_rfl) ?_
  refine EW.rg (by kernel_rfl) ?_
  obtain ⟨c3, H⟩ := ite_in H
  obtain ⟨a7, rfl⟩ := St.rd_some hS (Rd.ro 1 rfl) c3 b4
  refine EL.of (EO.Y (YO.idx 22 7 a7 a0.length a2 .i64 a1 15 (by kernel_rfl) (by kernel_rfl) (by kernel_rfl) (by kernel_rfl) c3 b4) ?_)
  refine EL.of (EO.Y (YO.loadEl hS kS28 a7 a2 a0 (Rd.ro 1 rfl) zS28 encS28 encS28_of a1 c3 b4 28 7 0 7 rfl (ag (encS28 (a0.getD a1.toNat zS28))) 16 (by kernel_rfl) (by kernel_rfl) (by kernel_rfl) (by kernel_rfl)) ?_)
  refine EL.of (EO.alloc hS 28 (ag (encS28 zS28)) (encS28 zS28) 5 (by kernel_rfl) (by kernel_rfl) (by kernel_rfl) (by kernel_rfl) (by first | rfl | kernel_rfl) ?_)
  intro a6 w hS
  refine EL.of (EO.storeBox (os' := Ass.box 28 a6 (encS28 (a0.getD a1.toNat zS28)) :: Ass.own 5 (Kd.int .u8) a4 a5 a3 :: os) hS 0 rfl 28 0 (ag (encS28 (a0.getD a1.toNat zS28))) (encS28 (a0.getD a1.toNat zS28)) (by kernel_rfl) (by kernel_rfl) (by kernel_rfl) (by kernel_rfl) (by kernel_rfl) (by kernel_rfl) rfl rfl ?_)
  intro w hS
  refine EL.done (by kernel_rfl) ?_
  refine EQ.code ?_
  refine EW.sq (by kernel_rfl) ?_
  refine EW.sq (by kernel_rfl) ?_
  refine EW.rg (by kernel_rfl) ?_
  refine EL.of (EO.Y (YO.loadBox hS 0 rfl 28 0 7 (ag (encS28 (a0.getD a1.toNat zS28))) 17 (by kernel_rfl) (by kernel_rfl) (by kernel_rfl) (by kernel_rfl)) ?_)
  obtain ⟨b7, d4, H⟩ := b1_out H
  have hq := trace_Right.calls d4 hS
  refine EL.of (EO.callD 23 [ag (encS28 (a0.getD a1.toNat zS28))] _ 18 (by kernel_rfl) (by kernel_rfl) (by kernel_rfl) hq ?_)
  rintro v w ⟨rfl, hS⟩
  refine EL.quick 1 [3, 5, 11, 12, 13, 19] [(3, sv a4 a5 a3), (5, pt a6 0), (11, sv (some a7) a2 a0), (12, ia (a0.length : Int)), (13, ia a1), (19, .bool (!(b7)))] (by kernel_rfl) ?_
  refine EL.done (by kernel_rfl) ?_
  refine EQ.code ?_
  refine EW.cdQ (b := !(b7)) (b7 = true) (false) (by kernel_rfl) (by kernel_rfl) ⟨fun h => (by rw [h] <;> rfl), fun h => (by rw [Bool.eq_false_iff.2 h] <;> rfl)⟩ (fun c4 => ?_) (fun c4 => ?_)
  ·rw [if_pos c4] at H
   refine EW.skip (by kernel_rfl) ?_
   refine EQ.code ?_
   refine EW.rg (by kernel_rfl) ?_
   refine EL.quick 2 [5, 11, 12, 13, 20, 21] [(5, pt a6 0), (11, sv (some a7) a2 a0), (12, ia (a0.length : Int)), (13, ia a1), (20, sv a4 a5 a3), (21, pt a6 0)] (by kernel_rfl) ?_
   refine EL.of (EO.Y (YO.loadBox hS 0 rfl 3 0 1 (ia ((a0.getD a1.toNat zS28).f0)) 22 (by kernel_rfl) (by kernel_rfl) (by kernel_rfl) (by kernel_rfl)) ?_)
   refine EL.quick 2 [5, 11, 12, 13, 20, 23, 24] [(5, pt a6 0), (11, sv (some a7) a2 a0), (12, ia (a0.length : Int)), (13, ia a1), (20, sv a4 a5 a3), (23, ic (IntKind.u64.wrap ((a0.getD a1.toNat zS28).f0))), (24, pt a6 1)] (by kernel_rfl) ?_
   refine EL.of (EO.Y (YO.loadBox hS 0 rfl 3 1 1 (ia ((a0.getD a1.toNat zS28).f1)) 25 (by kernel_rfl) (by kernel_rfl) (by kernel_rfl) (by kernel_rfl)) ?_)
   refine EL.quick 2 [5, 11, 12, 13, 20, 23, 26, 27] [(5, pt a6 0), (11, sv (some a7) a2 a0), (12, ia (a0.length : Int)), (13, ia a1), (20, sv a4 a5 a3), (23, ic (IntKind.u64.wrap ((a0.getD a1.toNat zS28).f0))), (26, ic (IntKind.u64.wrap ((a0.getD a1.toNat zS28).f1))), (27, pt a6 2)] (by kernel_rfl) ?_
   refine EL.of (EO.Y (YO.loadBox hS 0 rfl 3 2 1 (ia ((a0.getD a1.toNat zS28).f2)) 28 (by kernel_rfl) (by kernel_rfl) (by kernel_rfl) (by kernel_rfl)) ?_)
   refine EL.quick 2 [5, 11, 12, 13, 20, 23, 26, 29, 30] [(5, pt a6 0), (11, sv (some a7) a2 a0), (12, ia (a0.length : Int)), (13, ia a1), (20, sv a4 a5 a3), (23, ic (IntKind.u64.wrap ((a0.getD a1.toNat zS28).f0))), (26, ic (IntKind.u64.wrap ((a0.getD a1.toNat zS28).f1))), (29, ic (IntKind.u64.wrap ((a0.getD a1.toNat zS28).f2))), (30, pt a6 3)] (by kernel_rfl) ?_
   refine EL.of (EO.Y (YO.loadBox hS 0 rfl 3 3 1 (ia ((a0.getD a1.toNat zS28).f3)) 31 (by kernel_rfl) (by kernel_rfl) (by kernel_rfl) (by kernel_rfl)) ?_)
   refine EL.quick 2 [5, 11, 12, 13, 20, 23, 26, 29, 32, 33] [(5, pt a6 0), (11, sv (some a7) a2 a0), (12, ia (a0.length : Int)), (13, ia a1), (20, sv a4 a5 a3), (23, ic (IntKind.u64.wrap ((a0.getD a1.toNat zS28).f0))), (26, ic (IntKind.u64.wrap ((a0.getD a1.toNat zS28).f1))), (29, ic (IntKind.u64.wrap ((a0.getD a1.toNat zS28).f2))), (32, ic (IntKind.u64.wrap ((a0.getD a1.toNat zS28).f3))), (33, pt a6 4)] (by kernel_rfl) ?_
   refine EL.of (EO.Y (YO.loadBox hS 0 rfl 21 4 1 (ib ((a0.getD a1.toNat zS28).f4)) 34 (by kernel_rfl) (by kernel_rfl) (by kernel_rfl) (by kernel_rfl)) ?_)
   refine EL.quick 2 [5, 11, 12, 13, 20, 23, 26, 29, 32, 35, 36] [(5, pt a6 0), (11, sv (some a7) a2 a0), (12, ia (a0.length : Int)), (13, ia a1), (20, sv a4 a5 a3), (23, ic (IntKind.u64.wrap ((a0.getD a1.toNat zS28).f0))), (26, ic (IntKind.u64.wrap ((a0.getD a1.toNat zS28).f1))), (29, ic (IntKind.u64.wrap ((a0.getD a1.toNat zS28).f2))), (32, ic (IntKind.u64.wrap ((a0.getD a1.toNat zS28).f3))), (35, ic (IntKind.u64.wrap ((a0.getD a1.toNat zS28).f4))), (36, pt a6 5)] (by kernel_rfl) ?_
   refine EL.of (EO.Y (YO.loadBox hS 0 rfl 21 5 1 (ib ((a0.getD a1.toNat zS28).f5)) 37 (by kernel_rfl) (by kernel_rfl) (by kernel_rfl) (by kernel_rfl)) ?_)
   refine EL.quick 3 [11, 12, 13, 20, 23, 26, 29, 32, 35, 39, 40] [(11, sv (some a7) a2 a0), (12, ia (a0.length : Int)), (13, ia a1), (20, sv a4 a5 a3), (23, ic (IntKind.u64.wrap ((a0.getD a1.toNat zS28).f0))), (26, ic (IntKind.u64.wrap ((a0.getD a1.toNat zS28).f1))), (29, ic (IntKind.u64.wrap ((a0.getD a1.toNat zS28).f2))), (32, ic (IntKind.u64.wrap ((a0.getD a1.toNat zS28).f3))), (35, ic (IntKind.u64.wrap ((a0.getD a1.toNat zS28).f4))), (39, ic (IntKind.u64.wrap (IntKind.u32.wrap ((a0.getD a1.toNat zS28).f5)))), (40, pt a6 6)] (by kernel_rfl) ?_
   refine EL.of (EO.Y (YO.loadBox hS 0 rfl 21 6 1 (ib ((a0.getD a1.toNat zS28).f6)) 41 (by kernel_rfl) (by kernel_rfl) (by kernel_rfl) (by kernel_rfl)) ?_)
   refine EL.quick 2 [11, 12, 13, 20, 23, 26, 29, 32, 35, 39, 43] [(11, sv (some a7) a2 a0), (12, ia (a0.length : Int)), (13, ia a1), (20, sv a4 a5 a3), (23, ic (IntKind.u64.wrap ((a0.getD a1.toNat zS28).f0))), (26, ic (IntKind.u64.wrap ((a0.getD a1.toNat zS28).f1))), (29, ic (IntKind.u64.wrap ((a0.getD a1.toNat zS28).f2))), (32, ic (IntKind.u64.wrap ((a0.getD a1.toNat zS28).f3))), (35, ic (IntKind.u64.wrap ((a0.getD a1.toNat zS28).f4))), (39, ic (IntKind.u64.wrap (IntKind.u32.wrap ((a0.getD a1.toNat zS28).f5)))), (43, ic (IntKind.u64.wrap (IntKind.u32.wrap ((a0.getD a1.toNat zS28).f6))))] (by kernel_rfl) ?_
   obtain ⟨b6, d1, H⟩ := lt_out H
   refine EL.of (EO.lit hS (Kd.int .u64) 77 115 7 #[(0, ic (IntKind.u64.wrap ((a0.getD a1.toNat zS28).f0))), (1, ic (IntKind.u64.wrap ((a0.getD a1.toNat zS28).f1))), (2, ic (IntKind.u64.wrap ((a0.getD a1.toNat zS28).f2))), (3, ic (IntKind.u64.wrap ((a0.getD a1.toNat zS28).f3))), (4, ic (IntKind.u64.wrap ((a0.getD a1.toNat zS28).f4))), (5, ic (IntKind.u64.wrap (IntKind.u32.wrap ((a0.getD a1.toNat zS28).f5)))), (6, ic (IntKind.u64.wrap (IntKind.u32.wrap ((a0.getD a1.toNat zS28).f6))))] [ic (IntKind.u64.wrap ((a0.getD a1.toNat zS28).f0)), ic (IntKind.u64.wrap ((a0.getD a1.toNat zS28).f1)), ic (IntKind.u64.wrap ((a0.getD a1.toNat zS28).f2)), ic (IntKind.u64.wrap ((a0.getD a1.toNat zS28).f3)), ic (IntKind.u64.wrap ((a0.getD a1.toNat zS28).f4)), ic (IntKind.u64.wrap (IntKind.u32.wrap ((a0.getD a1.toNat zS28).f5))), ic (IntKind.u64.wrap (IntKind.u32.wrap ((a0.getD a1.toNat zS28).f6)))] b6 44 (by kernel_rfl) (by kernel_rfl) (by kernel_rfl) (fun _ => (by kernel_rfl)) (by rw [d1]; rfl) (by kernel_rfl) (fun w G hr => (by rw [d1]; exact ⟨[ic (IntKind.u64.wrap ((a0.getD a1.toNat zS28).f0))], [ic (IntKind.u64.wrap ((a0.getD a1.toNat zS28).f1)), ic (IntKind.u64.wrap ((a0.getD a1.toNat zS28).f2)), ic (IntKind.u64.wrap ((a0.getD a1.toNat zS28).f3)), ic (IntKind.u64.wrap ((a0.getD a1.toNat zS28).f4)), ic (IntKind.u64.wrap (IntKind.u32.wrap ((a0.getD a1.toNat zS28).f5))), ic (IntKind.u64.wrap (IntKind.u32.wrap ((a0.getD a1.toNat zS28).f6)))], rfl, rfl, ⟨[ic (IntKind.u64.wrap ((a0.getD a1.toNat zS28).f1))], [ic (IntKind.u64.wrap ((a0.getD a1.toNat zS28).f2)), ic (IntKind.u64.wrap ((a0.getD a1.toNat zS28).f3)), ic (IntKind.u64.wrap ((a0.getD a1.toNat zS28).f4)), ic (IntKind.u64.wrap (IntKind.u32.wrap ((a0.getD a1.toNat zS28).f5))), ic (IntKind.u64.wrap (IntKind.u32.wrap ((a0.getD a1.toNat zS28).f6)))], rfl, rfl, ⟨[ic (IntKind.u64.wrap ((a0.getD a1.toNat zS28).f2))], [ic (IntKind.u64.wrap ((a0.getD a1.toNat zS28).f3)), ic (IntKind.u64.wrap ((a0.getD a1.toNat zS28).f4)), ic (IntKind.u64.wrap (IntKind.u32.wrap ((a0.getD a1.toNat zS28).f5))), ic (IntKind.u64.wrap (IntKind.u32.wrap ((a0.getD a1.toNat zS28).f6)))], rfl, rfl, ⟨[ic (IntKind.u64.wrap ((a0.getD a1.toNat zS28).f3))], [ic (IntKind.u64.wrap ((a0.getD a1.toNat zS28).f4)), ic (IntKind.u64.wrap (IntKind.u32.wrap ((a0.getD a1.toNat zS28).f5))), ic (IntKind.u64.wrap (IntKind.u32.wrap ((a0.getD a1.toNat zS28).f6)))], rfl, rfl, ⟨[ic (IntKind.u64.wrap ((a0.getD a1.toNat zS28).f4))], [ic (IntKind.u64.wrap (IntKind.u32.wrap ((a0.getD a1.toNat zS28).f5))), ic (IntKind.u64.wrap (IntKind.u32.wrap ((a0.getD a1.toNat zS28).f6)))], rfl, rfl, ⟨[ic (IntKind.u64.wrap (IntKind.u32.wrap ((a0.getD a1.toNat zS28).f5)))], [ic (IntKind.u64.wrap (IntKind.u32.wrap ((a0.getD a1.toNat zS28).f6)))], rfl, rfl, ⟨[ic (IntKind.u64.wrap (IntKind.u32.wrap ((a0.getD a1.toNat zS28).f6)))], [], rfl, rfl, rfl⟩⟩⟩⟩⟩⟩⟩)) ?_)
   intro c9 w hS
   have hS := St.fr hS 0 rfl
   have hS : St B _ (Ass.box 28 a6 (encS28 (a0.getD a1.toNat zS28)) :: Ass.own 5 (Kd.int .u8) a4 a5 a3 :: os) (Ro.sl (Kd.int .u64) (some ⟨c9, 0, none⟩) 7 b6 :: Ro.sl (Kd.int .u64) (some ⟨c1, 0, none⟩) 1 b0 :: Ro.sl kS28 (some a7) a2 a0 :: rs) := hS.re [] [] rfl (sub_cons 0 rfl (sub_tail (sub_self)))
   obtain ⟨b8, d5, H⟩ := b1_out H
   have hq := pack_Put.calls d5 hS
   refine EL.of (EO.callD 43 [sv (some ⟨c9, 0, none⟩) 7 b6] _ 45 (by kernel_rfl) (by kernel_rfl) (by kernel_rfl) hq ?_)
   rintro v w ⟨c6, c8, rfl, hS⟩
   obtain ⟨d2, H⟩ := ite_in H
   obtain ⟨a9, d6, H⟩ := lt_out H
   refine EL.of (EO.append hS 33 33 5 1 2 (Kd.int .u8) a4 a5 a3 rfl c6 c8 b8 (Rd.own 0 5 rfl) a9 d6 (fun b2 b3 => Ass.own 5 (Kd.int .u8) c6 c8 b8 :: Ass.box 28 a6 (encS28 (a0.getD a1.toNat zS28)) :: Ass.own 5 (Kd.int .u8) b2 b3 a9 :: os) 46 (by kernel_rfl) (by kernel_rfl) (by kernel_rfl) (by kernel_rfl) d2 (fun _ _ => rfl) ?_)
   intro b2 b3 w hS
   refine EL.quick 1 [3, 11, 12, 13] [(3, sv b2 b3 a9), (11, sv (some a7) a2 a0), (12, ia (a0.length : Int)), (13, ia a1)] (by kernel_rfl) ?_
   refine EL.done (by kernel_rfl) ?_
   refine EQ.pop ?_
   refine EQ.code ?_
   refine EW.rg (by kernel_rfl) ?_
   refine EL.quick 2 [3, 11, 12, 13] [(3, sv b2 b3 a9), (11, sv (some a7) a2 a0), (12, ia (a0.length : Int)), (13, ia (IntKind.i64.wrap (a1 + 1)))] (by kernel_rfl) ?_
   refine EL.done (by kernel_rfl) ?_
   refine EQ.to ?_
   refine EQ.keep [3, 11, 12, 13] [(3, sv b2 b3 a9), (11, sv (some a7) a2 a0), (12, ia (a0.length : Int)), (13, ia (IntKind.i64.wrap (a1 + 1)))] (by kernel_rfl) ?_
   exact fun a ha => ⟨n, Nat.lt_succ_self n, a9, IntKind.i64.wrap (a1 + 1), b2, b3, ha, (hS.re [2] [1, 1] rfl (sub_cons 1 rfl (sub_cons 2 rfl (sub_tail (sub_tail (sub_tail (sub_self))))))), H⟩
  rw [if_neg c4] at H
  refine EW.sq (by kernel_rfl) ?_
  refine EW.rg (by kernel_rfl) ?_
  refine EL.quick 1 [2] [(2, sv none 0 ([] : List Int))] (by kernel_rfl) ?_
  refine EL.done (by kernel_rfl) ?_
  refine EQ.code ?_
  refine EW.ret (by kernel_rfl) ?_
  refine EQ.ret ?_
  refine EQ.ret ?_
  refine EQ.ret ?_
  refine EQ.ret ?_
  refine EQ.ret ?_
  refine EQ.ret ?_
  have hS := St.nilO hS 5 (Kd.int .u8)
  obtain rfl := Option.some.inj H
  exact EQ.leave (sv none 0 ([] : List Int)) (by kernel_rfl) ⟨_, rfl, none, 0, rfl, (hS.re [0] [1, 1] rfl (sub_tail (sub_self)))⟩
 rw [if_neg b4] at H
 refine EW.exit (id := 0) (by kernel_rfl) ?_
 refine EQ.exitCode ?_
 refine EQ.exitTo ?_
 refine EQ.exitHere ?_
 refine EQ.code ?_
 refine EW.sq (by kernel_rfl) ?_
 refine EW.rg (by kernel_rfl) ?_
 refine EL.quick 2 [2] [(2, sv a4 a5 a3)] (by kernel_rfl) ?_
 refine EL.done (by kernel_rfl) ?_
 refine EQ.code ?_
 refine EW.ret (by kernel_rfl) ?_
 obtain rfl := Option.some.inj H
 exact EQ.leave (sv a4 a5 a3) (by kernel_rfl) ⟨_, rfl, a4, a5, rfl, (hS.re [0] [] rfl (sub_tail (sub_self)))⟩

/-! ### confidant/pack.New: function 35 -/
def pack_New.f (K : Nat) (a0 : List Int) : Option (List Int × Int) := some (a0, 0)
set_option maxRecDepth 100000 in
theorem pack_New.calls {K : Nat} {a0 : List Int} {a1 : Option Addr} {a2 : Nat} {a4 : List Int} {a8 : Int} {B w : World} {os : List Ass} {rs : List Ro} (H : pack_New.f K a0 = some (a4, a8)) (hS : St B w (os) (Ro.sl (Kd.int .u8) a1 a2 a0 :: rs)) :
  Calls Tryd.prog 35 [sv a1 a2 a0].toArray w (fun en w' => ∃ v, en = .returned v ∧ ∃ a7 : Nat, ∃ a5 : Option Addr, ∃ a6 : Nat, v = pt a7 0 ∧ St B w' (Ass.box 112 a7 [sv a5 a6 a4, ia a8] :: os) (Ro.sl (Kd.int .u8) a5 a6 a4 :: Ro.sl (Kd.int .u8) a1 a2 a0 :: rs)) := by
 unfold pack_New.f at H
 refine calls_of_EW (args := [sv a1 a2 a0]) (c := Cd35) 6 Tryd.func35 (by kernel_rfl) (by kernel_rfl) (by kernel_rfl) ?_
 refine EW.sq (by kernel_rfl) ?_
 refine EW.rg (by kernel_rfl) ?_
 refine EL.quick 1 [0] [(0, sv a1 a2 a0)] (by kernel_rfl) ?_
 refine EL.done (by kernel_rfl) ?_
 refine EQ.code ?_
 refine EW.sq (by kernel_rfl) ?_
 refine EW.rg (by kernel_rfl) ?_
 refine EL.quick 2 [4] [(4, ag [sv a1 a2 a0, ia 0])] (by kernel_rfl) ?_
 refine EL.of (EO.box hS 112 (ag [sv a1 a2 a0, ia 0]) [sv a1 a2 a0, ia 0] 5 (by kernel_rfl) (by kernel_rfl) (by kernel_rfl) (by first | rfl | kernel_rfl) ?_)
 intro a3 w hS
 refine EL.quick 1 [2] [(2, pt a3 0)] (by kernel_rfl) ?_
 refine EL.done (by kernel_rfl) ?_
 refine EQ.code ?_
 refine EW.ret (by kernel_rfl) ?_
 simp only [sv, Option.some.injEq, Prod.mk.injEq] at H
 obtain ⟨rfl, rfl⟩ := H
 exact EQ.leave (pt a3 0) (by kernel_rfl) ⟨_, rfl, a3, a1, a2, rfl, (hS.re [0] [] rfl (sub_cons 0 rfl (sub_self)))⟩

/-! ### (*confidant/pack.Reader).fail: function 81 -/
def pack_Reader_fail.f (K : Nat) (a3 : List Int) (a2 : Int) (a0 : Int) : Option (List Int × Int × Int) := some (([] : List Int), a0, 0)
set_option maxRecDepth 100000 in
theorem pack_Reader_fail.calls {K : Nat} {a3 : List Int} {a2 : Int} {a0 : Int} {a1 : Nat} {a4 : Option Addr} {a5 : Nat} {a6 : List Int} {a9 : Int} {b0 : Int} {B w : World} {os : List Ass} {rs : List Ro} (H : pack_Reader_fail.f K a3 a2 a0 = some (a6, a9, b0)) (hS : St B w (Ass.box 112 a1 [sv a4 a5 a3, ia a2] :: os) (Ro.sl (Kd.int .u8) a4 a5 a3 :: rs)) :
  Calls Tryd.prog 81 [pt a1 0, ia a0].toArray w (fun en w' => ∃ v, en = .returned v ∧ ∃ a7 : Option Addr, ∃ a8 : Nat, v = ic b0 ∧ St B w' (Ass.box 112 a1 [sv a7 a8 a6, ia a9] :: Ass.own 5 (Kd.int .u8) a7 a8 a6 :: os) (Ro.sl (Kd.int .u8) a4 a5 a3 :: rs)) := by
 unfold pack_Reader_fail.f at H
 refine calls_of_EW (args := [pt a1 0, ia a0]) (c := Cd81) 12 Tryd.func81 (by kernel_rfl) (by kernel_rfl) (by kernel_rfl) ?_
 refine EW.sq (by kernel_rfl) ?_
 refine EW.rg (by kernel_rfl) ?_
 refine EL.quick 1 [0, 1] [(0, pt a1 0), (1, ia a0)] (by kernel_rfl) ?_
 refine EL.done (by kernel_rfl) ?_
 refine EQ.code ?_
 refine EW.sq (by kernel_rfl) ?_
 refine EW.rg (by kernel_rfl) ?_
 refine EL.quick 5 [6, 7, 9] [(6, pt a1 0), (7, ia a0), (9, pt a1 0)] (by kernel_rfl) ?_
 refine EL.of (EO.storeBox (os' := Ass.box 112 a1 [sv none 0 ([] : List Int), ia a2] :: os) hS 0 rfl 33 0 (sv none 0 ([] : List Int)) [sv none 0 ([] : List Int), ia a2] (by kernel_rfl) (by kernel_rfl) (by kernel_rfl) (by kernel_rfl) (by kernel_rfl) (by kernel_rfl) rfl rfl ?_)
 intro w hS
 refine EL.quick 2 [7, 11] [(7, ia a0), (11, pt a1 1)] (by kernel_rfl) ?_
 refine EL.of (EO.storeBox (os' := Ass.box 112 a1 [sv none 0 ([] : List Int), ia a0] :: os) hS 0 rfl 43 1 (ia a0) [sv none 0 ([] : List Int), ia a0] (by kernel_rfl) (by kernel_rfl) (by kernel_rfl) (by kernel_rfl) (by kernel_rfl) (by kernel_rfl) rfl rfl ?_)
 intro w hS
 refine EL.done (by kernel_rfl) ?_
 refine EQ.code ?_
 refine EW.sq (by kernel_rfl) ?_
 refine EW.rg (by kernel_rfl) ?_
 refine EL.quick 1 [4] [(4, ic 0)] (by kernel_rfl) ?_
 refine EL.done (by kernel_rfl) ?_
 refine EQ.code ?_
 refine EW.ret (by kernel_rfl) ?_
 have hS := St.nilO hS 5 (Kd.int .u8)
 simp only [sv, Option.some.injEq, Prod.mk.injEq] at H
 obtain ⟨rfl, rfl, rfl⟩ := H
 exact EQ.leave (ic 0) (by kernel_rfl) ⟨_, rfl, none, 0, rfl, (hS.re [0, 1] [] rfl (sub_self))⟩

/-! ### (*confidant/pack.Reader).Num: function 57 -/
def pack_Reader_Num.l0 (K : Nat) (a0 : List Int) (a7 : Int) (a4 : Int) (b1 : Option (List Int × Int × Int)) : Nat → Int → Int → Option (List Int × Int × Int)
 | 0, _, _ => none
 | n + 1, a5, a1 => if a1 < (a0.length : Int) then (lt (fun (b0 : Int) => (pack_Reader_Num.l0 K a0 a7 a4 b1 n b0 (IntKind.i64.wrap (a1 + 1)))) fun d2 => (if 0 ≤ a1 then (lt (fun (b6 : Bool) => (if b6 = true then (b3 (pack_Reader_fail.f K a0 a7 20) fun (d5 : List Int) (d6 : Int) (c4 : Int) => (some (d5, d6, c4))) else (lt (bO .u64 (sL .u64 a5 7) (IntKind.u64.wrap (bN .u8 (a0.getD a1.toNat 0) 128))) fun a9 => (if (bA .u8 (a0.getD a1.toNat 0) 128) = 0 then (if a9 > a4 then (b3 (pack_Reader_fail.f K a0 a7 22) fun (d7 : List Int) (d8 : Int) (c5 : Int) => (some (d7, d8, c5))) else (if 0 ≤ (IntKind.i64.wrap (a1 + 1)) then (if (IntKind.i64.wrap (a1 + 1)) ≤ (a0.length : Int) then (lt (a0.drop ((IntKind.i64.wrap (a1 + 1)).toNat)) fun b2 => (some (b2, a7, a9))) else none) else none)) else (d2 a9))))) fun c1 => (if a1 = 0 then (if (a0.getD a1.toNat 0) = 128 then (c1 true) else (c1 (!(decide ((sR .u64 a5 57) = 0))))) else (c1 (!(decide ((sR .u64 a5 57) = 0)))))) else none)) else (b1)
def pack_Reader_Num.f (K : Nat) (a0 : List Int) (a7 : Int) (a4 : Int) : Option (List Int × Int × Int) := if a7 = 0 then (lt (b3 (pack_Reader_fail.f K a0 a7 21) fun (d9 : List Int) (e0 : Int) (c6 : Int) => (some (d9, e0, c6))) fun b1 => (pack_Reader_Num.l0 K a0 a7 a4 b1 K 0 0)) else (some (a0, a7, 0))
set_option maxRecDepth 100000 in
theorem pack_Reader_Num.calls {K : Nat} {a0 : List Int} {a7 : Int} {a4 : Int} {a2 : Nat} {a8 : Option Addr} {a3 : Nat} {b4 : List Int} {b7 : Int} {b8 : Int} {B w : World} {os : List Ass} {rs : List Ro} (H : pack_Reader_Num.f K a0 a7 a4 = some (b4, b7, b8)) (hS : St B w (Ass.box 112 a2 [sv a8 a3 a0, ia a7] :: os) (Ro.sl (Kd.int .u8) a8 a3 a0 :: rs)) :
  Calls Tryd.prog 57 [pt a2 0, ic a4].toArray w (fun en w' => ∃ v, en = .returned v ∧ ∃ d3 : Option Addr, ∃ d4 : Nat, v = ic b8 ∧ St B w' (Ass.box 112 a2 [sv d3 d4 b4, ia b7] :: os) (Ro.sl (Kd.int .u8) d3 d4 b4 :: Ro.sl (Kd.int .u8) a8 a3 a0 :: rs)) := by
 unfold pack_Reader_Num.f at H
 refine calls_of_EW (args := [pt a2 0, ic a4]) (c := Cd57) 64 Tryd.func57 (by kernel_rfl) (by kernel_rfl) (by kernel_rfl) ?_
 refine EW.sq (by kernel_rfl) ?_
 refine EW.rg (by kernel_rfl) ?_
 refine EL.quick 1 [0, 1] [(0, pt a2 0), (1, ic a4)] (by kernel_rfl) ?_
 refine EL.done (by kernel_rfl) ?_
 refine EQ.code ?_
 refine EW.sq (by kernel_rfl) ?_
 refine EW.sq (by kernel_rfl) ?_
 refine EW.rg (by kernel_rfl) ?_
 refine EL.quick 3 [0, 1, 10] [(0, pt a2 0), (1, ic a4), (10, pt a2 1)] (by kernel_rfl) ?_
 refine EL.of (EO.Y (YO.loadBox hS 0 rfl 43 1 1 (ia a7) 11 (by kernel_rfl) (by kernel_rfl) (by kernel_rfl) (by kernel_rfl)) ?_)
 refine EL.quick 1 [0, 1, 12] [(0, pt a2 0), (1, ic a4), (12, .bool (!(decide (a7 = 0))))] (by kernel_rfl) ?_
 refine EL.done (by kernel_rfl) ?_
 refine EQ.code ?_
 refine EW.cdQ (b := !(decide (a7 = 0))) (a7 = 0) (false) (by kernel_rfl) (by kernel_rfl) ⟨fun h => (by rw [decide_eq_true h] <;> rfl), fun h => (by rw [decide_eq_false h] <;> rfl)⟩ (fun d1 => ?_) (fun d1 => ?_)
 ·rw [if_pos d1] at H
  refine EW.skip (by kernel_rfl) ?_
  refine EQ.code ?_
  refine EW.sq (by kernel_rfl) ?_
  refine EW.rg (by kernel_rfl) ?_
  refine EL.quick 1 [0, 1, 5] [(0, pt a2 0), (1, ic a4), (5, ic 0)] (by kernel_rfl) ?_
  refine EL.done (by kernel_rfl) ?_
  refine EQ.code ?_
  obtain ⟨b1, f0, H⟩ := lt_out H
  refine EW.ct (fun a w => Sat 64 [(0, pt a2 0)] a ∧ St B w (Ass.box 112 a2 [sv a8 a3 a0, ia a7] :: os) (Ro.sl (Kd.int .u8) a8 a3 a0 :: rs) ∧ b1 = some (b4, b7, b8)) (by kernel_rfl) ?_ (fun a w hI => ?_)
  ·refine EW.sq (by kernel_rfl) ?_
   refine EW.rg (by kernel_rfl) ?_
   refine EL.quick 3 [0, 1, 5, 15] [(0, pt a2 0), (1, ic a4), (5, ic 0), (15, pt a2 0)] (by kernel_rfl) ?_
   refine EL.of (EO.Y (YO.loadBox hS 0 rfl 33 0 1 (sv a8 a3 a0) 16 (by kernel_rfl) (by kernel_rfl) (by kernel_rfl) (by kernel_rfl)) ?_)
   refine EL.quick 2 [0, 1, 5, 16, 17, 18] [(0, pt a2 0), (1, ic a4), (5, ic 0), (16, sv a8 a3 a0), (17, ia (a0.length : Int)), (18, ia 0)] (by kernel_rfl) ?_
   refine EL.done (by kernel_rfl) ?_
   refine EQ.code ?_
   refine EW.bl 0 (by kernel_rfl) ?_
   refine EW.lp (fun n a w => ∃ a5 : Int, ∃ a1 : Int, Sat 64 [(0, pt a2 0), (1, ic a4), (5, ic a5), (16, sv a8 a3 a0), (17, ia (a0.length : Int)), (18, ia a1)] a ∧ St B w (Ass.box 112 a2 [sv a8 a3 a0, ia a7] :: os) (Ro.sl (Kd.int .u8) a8 a3 a0 :: rs) ∧ pack_Reader_Num.l0 K a0 a7 a4 b1 n a5 a1 = some (b4, b7, b8)) K (by kernel_rfl) ?_ (fun n a w hI => ?_)
   ·refine EQ.keep [0, 1, 5, 16, 17, 18] [(0, pt a2 0), (1, ic a4), (5, ic 0), (16, sv a8 a3 a0), (17, ia (a0.length : Int)), (18, ia 0)] (by kernel_rfl) ?_
    exact fun a ha => ⟨0, 0, ha, (hS.re [0] [] rfl (sub_cons 0 rfl (sub_tail (sub_self)))), H⟩
   obtain ⟨a5, a1, ha, hS, H⟩ := hI
   obtain _ | n := n
   ·simp [pack_Reader_Num.l0] at H
   rw [pack_Reader_Num.l0.eq_2] at H
   refine EW.at ?_ a ha
   clear ha a
   refine EW.sq (by kernel_rfl) ?_
   refine EW.rg (by kernel_rfl) ?_
   refine EL.quick 1 [0, 1, 5, 16, 17, 18, 19] [(0, pt a2 0), (1, ic a4), (5, ic a5), (16, sv a8 a3 a0), (17, ia (a0.length : Int)), (18, ia a1), (19, .bool (decide (a1 < (a0.length : Int))))] (by kernel_rfl) ?_
   refine EL.done (by kernel_rfl) ?_
   refine EQ.code ?_
   refine EW.sq (by kernel_rfl) ?_
   refine EW.cdP (a1 < (a0.length : Int)) (by kernel_rfl) (by kernel_rfl) (fun b5 => ?_) (fun b5 => ?_)
   ·rw [if_pos b5] at H
    refine EW.skip (by kernel_rfl) ?_
    refine EQ.code ?_
    obtain ⟨d2, f1, H⟩ := lt_out H
    refine EW.ct (fun a w => ∃ b0 : Int, Sat 64 [(0, pt a2 0), (1, ic a4), (5, ic b0), (16, sv a8 a3 a0), (17, ia (a0.length : Int)), (18, ia a1)] a ∧ St B w (Ass.box 112 a2 [sv a8 a3 a0, ia a7] :: os) (Ro.sl (Kd.int .u8) a8 a3 a0 :: rs) ∧ d2 b0 = some (b4, b7, b8)) (by kernel_rfl) ?_ (fun a w hI => ?_)
    ·refine EW.bl 1 (by kernel_rfl) ?_
     refine EW.sq (by kernel_rfl) ?_
     refine EW.rg (by kernel_rfl) ?_
     refine EL.quick 1 [0, 1, 5, 16, 17, 18, 20] [(0, pt a2 0), (1, ic a4), (5, ic a5), (16, sv a8 a3 a0), (17, ia (a0.length : Int)), (18, ia a1), (20, ia a1)] (by kernel_rfl) ?_
     obtain ⟨c7, H⟩ := ite_in H
     obtain ⟨a6, rfl⟩ := St.rd_some hS (Rd.ro 0 rfl) c7 b5
     refine EL.of (EO.Y (YO.idx 33 1 a6 a0.length a3 .i64 a1 21 (by kernel_rfl) (by kernel_rfl) (by kernel_rfl) (by kernel_rfl) c7 b5) ?_)
     refine EL.of (EO.Y (YO.loadEl hS (Kd.int .u8) a6 a3 a0 (Rd.ro 0 rfl) 0 (encI .u8) encI_of a1 c7 b5 5 1 0 1 rfl (ig (a0.getD a1.toNat 0)) 22 (by kernel_rfl) (by kernel_rfl) (by kernel_rfl) (by kernel_rfl)) ?_)
     refine EL.quick 2 [0, 1, 5, 6, 7, 16, 17, 18] [(0, pt a2 0), (1, ic a4), (5, ic a5), (6, ia a1), (7, ig (a0.getD a1.toNat 0)), (16, sv (some a6) a3 a0), (17, ia (a0.length : Int)), (18, ia a1)] (by kernel_rfl) ?_
     refine EL.done (by kernel_rfl) ?_
     refine EQ.code ?_
     refine EW.sq (by kernel_rfl) ?_
     obtain ⟨c1, f2, H⟩ := lt_out H
     refine EW.ct (fun a w => ∃ b6 : Bool, Sat 64 [(0, pt a2 0), (1, ic a4), (5, ic a5), (6, ia a1), (7, ig (a0.getD a1.toNat 0)), (16, sv (some a6) a3 a0), (17, ia (a0.length : Int)), (18, ia a1), (33, .bool (b6))] a ∧ St B w (Ass.box 112 a2 [sv (some a6) a3 a0, ia a7] :: os) (Ro.sl (Kd.int .u8) (some a6) a3 a0 :: rs) ∧ c1 b6 = some (b4, b7, b8)) (by kernel_rfl) ?_ (fun a w hI => ?_)
     ·refine EW.rg (by kernel_rfl) ?_
      refine EL.quick 3 [0, 1, 5, 6, 7, 16, 17, 18, 25] [(0, pt a2 0), (1, ic a4), (5, ic a5), (6, ia a1), (7, ig (a0.getD a1.toNat 0)), (16, sv (some a6) a3 a0), (17, ia (a0.length : Int)), (18, ia a1), (25, .bool (decide (a1 = 0)))] (by kernel_rfl) ?_
      by_cases c2 : a1 = 0
      ·rw [if_pos c2] at H
       refine EL.keep [0, 1, 5, 6, 7, 16, 17, 18, 25] [(0, pt a2 0), (1, ic a4), (5, ic a5), (6, ia a1), (7, ig (a0.getD a1.toNat 0)), (16, sv (some a6) a3 a0), (17, ia (a0.length : Int)), (18, ia a1), (25, .bool (decide (a1 = 0)))] (by kernel_rfl) ?_
       refine EL.as' [(0, pt a2 0), (1, ic a4), (5, ic a5), (6, ia a1), (7, ig (a0.getD a1.toNat 0)), (16, sv (some a6) a3 a0), (17, ia (a0.length : Int)), (18, ia a1), (25, .bool (true))] (by simp only [sv, dec_t c2, Bool.not_true, Bool.not_false]) ?_
       refine EL.quick 4 [0, 1, 5, 6, 7, 16, 17, 18, 26, 27, 29] [(0, pt a2 0), (1, ic a4), (5, ic a5), (6, ia a1), (7, ig (a0.getD a1.toNat 0)), (16, sv (some a6) a3 a0), (17, ia (a0.length : Int)), (18, ia a1), (26, ig (a0.getD a1.toNat 0)), (27, .bool (decide ((a0.getD a1.toNat 0) = 128))), (29, .bool (decide ((a0.getD a1.toNat 0) = 128)))] (by kernel_rfl) ?_
       by_cases c3 : (a0.getD a1.toNat 0) = 128
       ·rw [if_pos c3] at H
        refine EL.keep [0, 1, 5, 6, 7, 16, 17, 18, 26, 27, 29] [(0, pt a2 0), (1, ic a4), (5, ic a5), (6, ia a1), (7, ig (a0.getD a1.toNat 0)), (16, sv (some a6) a3 a0), (17, ia (a0.length : Int)), (18, ia a1), (26, ig (a0.getD a1.toNat 0)), (27, .bool (decide ((a0.getD a1.toNat 0) = 128))), (29, .bool (decide ((a0.getD a1.toNat 0) = 128)))] (by kernel_rfl) ?_
        refine EL.as' [(0, pt a2 0), (1, ic a4), (5, ic a5), (6, ia a1), (7, ig (a0.getD a1.toNat 0)), (16, sv (some a6) a3 a0), (17, ia (a0.length : Int)), (18, ia a1), (26, ig (a0.getD a1.toNat 0)), (27, .bool (true)), (29, .bool (true))] (by simp only [sv, dec_t c3, Bool.not_true, Bool.not_false]) ?_
        refine EL.quick 4 [0, 1, 5, 6, 7, 16, 17, 18, 26, 27, 33] [(0, pt a2 0), (1, ic a4), (5, ic a5), (6, ia a1), (7, ig (a0.getD a1.toNat 0)), (16, sv (some a6) a3 a0), (17, ia (a0.length : Int)), (18, ia a1), (26, ig (a0.getD a1.toNat 0)), (27, .bool (true)), (33, .bool (true))] (by kernel_rfl) ?_
        refine EL.done (by kernel_rfl) ?_
        refine EQ.to ?_
        refine EQ.keep [0, 1, 5, 6, 7, 16, 17, 18, 33] [(0, pt a2 0), (1, ic a4), (5, ic a5), (6, ia a1), (7, ig (a0.getD a1.toNat 0)), (16, sv (some a6) a3 a0), (17, ia (a0.length : Int)), (18, ia a1), (33, .bool (true))] (by kernel_rfl) ?_
        exact fun a ha => ⟨true, ha, (hS.re [0] [] rfl (sub_cons 0 rfl (sub_tail (sub_self)))), H⟩
       rw [if_neg c3] at H
       refine EL.keep [0, 1, 5, 6, 7, 16, 17, 18, 26, 27, 29] [(0, pt a2 0), (1, ic a4), (5, ic a5), (6, ia a1), (7, ig (a0.getD a1.toNat 0)), (16, sv (some a6) a3 a0), (17, ia (a0.length : Int)), (18, ia a1), (26, ig (a0.getD a1.toNat 0)), (27, .bool (decide ((a0.getD a1.toNat 0) = 128))), (29, .bool (decide ((a0.getD a1.toNat 0) = 128)))] (by kernel_rfl) ?_
       refine EL.as' [(0, pt a2 0), (1, ic a4), (5, ic a5), (6, ia a1), (7, ig (a0.getD a1.toNat 0)), (16, sv (some a6) a3 a0), (17, ia (a0.length : Int)), (18, ia a1), (26, ig (a0.getD a1.toNat 0)), (27, .bool (false)), (29, .bool (false))] (by simp only [sv, dec_f c3, Bool.not_true, Bool.not_false]) ?_
       refine EL.quick 4 [0, 1, 5, 6, 7, 16, 17, 18, 26, 27, 30, 31, 32, 33] [(0, pt a2 0), (1, ic a4), (5, ic a5), (6, ia a1), (7, ig (a0.getD a1.toNat 0)), (16, sv (some a6) a3 a0), (17, ia (a0.length : Int)), (18, ia a1), (26, ig (a0.getD a1.toNat 0)), (27, .bool (false)), (30, ic a5), (31, ic (sR .u64 a5 57)), (32, .bool (!(decide ((sR .u64 a5 57) = 0)))), (33, .bool (!(decide ((sR .u64 a5 57) = 0))))] (by kernel_rfl) ?_
       refine EL.done (by kernel_rfl) ?_
       refine EQ.to ?_
       refine EQ.keep [0, 1, 5, 6, 7, 16, 17, 18, 33] [(0, pt a2 0), (1, ic a4), (5, ic a5), (6, ia a1), (7, ig (a0.getD a1.toNat 0)), (16, sv (some a6) a3 a0), (17, ia (a0.length : Int)), (18, ia a1), (33, .bool (!(decide ((sR .u64 a5 57) = 0))))] (by kernel_rfl) ?_
       exact fun a ha => ⟨!(decide ((sR .u64 a5 57) = 0)), ha, (hS.re [0] [] rfl (sub_cons 0 rfl (sub_tail (sub_self)))), H⟩
      rw [if_neg c2] at H
      refine EL.keep [0, 1, 5, 6, 7, 16, 17, 18, 25] [(0, pt a2 0), (1, ic a4), (5, ic a5), (6, ia a1), (7, ig (a0.getD a1.toNat 0)), (16, sv (some a6) a3 a0), (17, ia (a0.length : Int)), (18, ia a1), (25, .bool (decide (a1 = 0)))] (by kernel_rfl) ?_
      refine EL.as' [(0, pt a2 0), (1, ic a4), (5, ic a5), (6, ia a1), (7, ig (a0.getD a1.toNat 0)), (16, sv (some a6) a3 a0), (17, ia (a0.length : Int)), (18, ia a1), (25, .bool (false))] (by simp only [sv, dec_f c2, Bool.not_true, Bool.not_false]) ?_
      refine EL.quick 8 [0, 1, 5, 6, 7, 16, 17, 18, 30, 31, 32, 33] [(0, pt a2 0), (1, ic a4), (5, ic a5), (6, ia a1), (7, ig (a0.getD a1.toNat 0)), (16, sv (some a6) a3 a0), (17, ia (a0.length : Int)), (18, ia a1), (30, ic a5), (31, ic (sR .u64 a5 57)), (32, .bool (!(decide ((sR .u64 a5 57) = 0)))), (33, .bool (!(decide ((sR .u64 a5 57) = 0))))] (by kernel_rfl) ?_
      refine EL.done (by kernel_rfl) ?_
      refine EQ.to ?_
      refine EQ.keep [0, 1, 5, 6, 7, 16, 17, 18, 33] [(0, pt a2 0), (1, ic a4), (5, ic a5), (6, ia a1), (7, ig (a0.getD a1.toNat 0)), (16, sv (some a6) a3 a0), (17, ia (a0.length : Int)), (18, ia a1), (33, .bool (!(decide ((sR .u64 a5 57) = 0))))] (by kernel_rfl) ?_
      exact fun a ha => ⟨!(decide ((sR .u64 a5 57) = 0)), ha, (hS.re [0] [] rfl (sub_cons 0 rfl (sub_tail (sub_self)))), H⟩
     obtain ⟨b6, ha, hS, H⟩ := hI
     rw [f2] at H
     (try dsimp only at H)
     refine EW.at ?_ a ha
     clear ha a
     refine EW.cdP' (b6) (by kernel_rfl) (by kernel_rfl) (fun c8 => ?_) (fun c8 => ?_)
     ·rw [if_pos c8] at H
      refine EW.sq (by kernel_rfl) ?_
      refine EW.rg (by kernel_rfl) ?_
      refine EL.quick 1 [34] [(34, pt a2 0)] (by kernel_rfl) ?_
      have hS : St B _ (Ass.box 112 a2 [sv (some a6) a3 a0, ia a7] :: os) (Ro.sl (Kd.int .u8) (some a6) a3 a0 :: rs) := hS.re [0] [] rfl (sub_cons 0 rfl (sub_tail (sub_self)))
      obtain ⟨d5, d6, c4, e7, H⟩ := b3_out H
      have hq := pack_Reader_fail.calls e7 hS
      refine EL.of (EO.callD 81 [pt a2 0, ia 20] _ 35 (by kernel_rfl) (by kernel_rfl) (by kernel_rfl) hq ?_)
      rintro v w ⟨e1, e4, rfl, hS⟩
      refine EL.quick 1 [4] [(4, ic c4)] (by kernel_rfl) ?_
      refine EL.done (by kernel_rfl) ?_
      refine EQ.code ?_
      refine EW.ret (by kernel_rfl) ?_
      refine EQ.ret ?_
      refine EQ.ret ?_
      refine EQ.ret ?_
      refine EQ.ret ?_
      refine EQ.ret ?_
      refine EQ.ret ?_
      have hS := St.fr hS 1 rfl
      simp only [sv, Option.some.injEq, Prod.mk.injEq] at H
      obtain ⟨rfl, rfl, rfl⟩ := H
      exact EQ.leave (ic c4) (by kernel_rfl) ⟨_, rfl, e1, e4, rfl, (hS.re [0] [] rfl (sub_cons 0 rfl (sub_tail (sub_self))))⟩
     rw [if_neg c8] at H
     refine EW.skip (by kernel_rfl) ?_
     refine EQ.code ?_
     refine EW.sq (by kernel_rfl) ?_
     refine EW.rg (by kernel_rfl) ?_
     refine EL.quick 7 [0, 1, 5, 6, 7, 16, 17, 18] [(0, pt a2 0), (1, ic a4), (5, ic (bO .u64 (sL .u64 a5 7) (IntKind.u64.wrap (bN .u8 (a0.getD a1.toNat 0) 128)))), (6, ia a1), (7, ig (a0.getD a1.toNat 0)), (16, sv (some a6) a3 a0), (17, ia (a0.length : Int)), (18, ia a1)] (by kernel_rfl) ?_
     obtain ⟨a9, f4, H⟩ := lt_out H
     refine EL.keep [0, 1, 5, 6, 7, 16, 17, 18] [(0, pt a2 0), (1, ic a4), (5, ic (bO .u64 (sL .u64 a5 7) (IntKind.u64.wrap (bN .u8 (a0.getD a1.toNat 0) 128)))), (6, ia a1), (7, ig (a0.getD a1.toNat 0)), (16, sv (some a6) a3 a0), (17, ia (a0.length : Int)), (18, ia a1)] (by kernel_rfl) ?_
     refine EL.as' [(0, pt a2 0), (1, ic a4), (5, ic a9), (6, ia a1), (7, ig (a0.getD a1.toNat 0)), (16, sv (some a6) a3 a0), (17, ia (a0.length : Int)), (18, ia a1)] (by subst f4; rfl) ?_
     refine EL.done (by kernel_rfl) ?_
     refine EQ.code ?_
     refine EW.sq (by kernel_rfl) ?_
     refine EW.sq (by kernel_rfl) ?_
     refine EW.rg (by kernel_rfl) ?_
     refine EL.quick 3 [0, 1, 5, 6, 16, 17, 18, 44] [(0, pt a2 0), (1, ic a4), (5, ic a9), (6, ia a1), (16, sv (some a6) a3 a0), (17, ia (a0.length : Int)), (18, ia a1), (44, .bool (!(decide ((bA .u8 (a0.getD a1.toNat 0) 128) = 0))))] (by kernel_rfl) ?_
     refine EL.done (by kernel_rfl) ?_
     refine EQ.code ?_
     refine EW.cdQ (b := !(decide ((bA .u8 (a0.getD a1.toNat 0) 128) = 0))) ((bA .u8 (a0.getD a1.toNat 0) 128) = 0) (false) (by kernel_rfl) (by kernel_rfl) ⟨fun h => (by rw [decide_eq_true h] <;> rfl), fun h => (by rw [decide_eq_false h] <;> rfl)⟩ (fun c9 => ?_) (fun c9 => ?_)
     ·rw [if_pos c9] at H
      refine EW.skip (by kernel_rfl) ?_
      refine EQ.code ?_
      refine EW.sq (by kernel_rfl) ?_
      refine EW.sq (by kernel_rfl) ?_
      refine EW.rg (by kernel_rfl) ?_
      refine EL.quick 3 [0, 5, 6, 47] [(0, pt a2 0), (5, ic a9), (6, ia a1), (47, .bool (decide (a9 > a4)))] (by kernel_rfl) ?_
      refine EL.done (by kernel_rfl) ?_
      refine EQ.code ?_
      refine EW.cdP (a9 > a4) (by kernel_rfl) (by kernel_rfl) (fun d0 => ?_) (fun d0 => ?_)
      ·rw [if_pos d0] at H
       refine EW.sq (by kernel_rfl) ?_
       refine EW.rg (by kernel_rfl) ?_
       refine EL.quick 1 [48] [(48, pt a2 0)] (by kernel_rfl) ?_
       have hS : St B _ (Ass.box 112 a2 [sv (some a6) a3 a0, ia a7] :: os) (Ro.sl (Kd.int .u8) (some a6) a3 a0 :: rs) := hS.re [0] [] rfl (sub_cons 0 rfl (sub_tail (sub_self)))
       obtain ⟨d7, d8, c5, e8, H⟩ := b3_out H
       have hq := pack_Reader_fail.calls e8 hS
       refine EL.of (EO.callD 81 [pt a2 0, ia 22] _ 49 (by kernel_rfl) (by kernel_rfl) (by kernel_rfl) hq ?_)
       rintro v w ⟨e2, e5, rfl, hS⟩
       refine EL.quick 1 [4] [(4, ic c5)] (by kernel_rfl) ?_
       refine EL.done (by kernel_rfl) ?_
       refine EQ.code ?_
       refine EW.ret (by kernel_rfl) ?_
       refine EQ.ret ?_
       refine EQ.ret ?_
       refine EQ.ret ?_
       refine EQ.ret ?_
       refine EQ.ret ?_
       refine EQ.ret ?_
       have hS := St.fr hS 1 rfl
       simp only [sv, Option.some.injEq, Prod.mk.injEq] at H
       obtain ⟨rfl, rfl, rfl⟩ := H
       exact EQ.leave (ic c5) (by kernel_rfl) ⟨_, rfl, e2, e5, rfl, (hS.re [0] [] rfl (sub_cons 0 rfl (sub_tail (sub_self))))⟩
      rw [if_neg d0] at H
      refine EW.skip (by kernel_rfl) ?_
      refine EQ.code ?_
      refine EW.sq (by kernel_rfl) ?_
      refine EW.rg (by kernel_rfl) ?_
      refine EL.quick 4 [5, 6, 50, 53] [(5, ic a9), (6, ia a1), (50, pt a2 0), (53, pt a2 0)] (by kernel_rfl) ?_
      refine EL.of (EO.Y (YO.loadBox hS 0 rfl 33 0 1 (sv (some a6) a3 a0) 54 (by kernel_rfl) (by kernel_rfl) (by kernel_rfl) (by kernel_rfl)) ?_)
      refine EL.quick 2 [5, 50, 54, 56] [(5, ic a9), (50, pt a2 0), (54, sv (some a6) a3 a0), (56, ia (IntKind.i64.wrap (a1 + 1)))] (by kernel_rfl) ?_
      obtain ⟨f5, H⟩ := ite_in H
      obtain ⟨f6, H⟩ := ite_in H
      obtain ⟨b2, f3, H⟩ := lt_out H
      refine EL.of (EO.sliceRo hS (Kd.int .u8) (some a6) a3 a0 0 rfl (some (ia (IntKind.i64.wrap (a1 + 1)))) none none ((IntKind.i64.wrap (a1 + 1)).toNat) a0.length a3 b2 (by rw [f3]; exact (slice_lo _ _)) 33 57 (by kernel_rfl) (by kernel_rfl) (by kernel_rfl) (by kernel_rfl) ((Int.toNat_of_nonneg (by omega)).symm) (rfl) ⟨rfl, fun h => by first | rfl | cases h⟩ (by omega) (by omega) (.inl rfl) ?_)
      intro b9 c0 hS
      refine EL.quick 2 [5, 57, 59] [(5, ic a9), (57, sv b9 c0 b2), (59, pt a2 0)] (by kernel_rfl) ?_
      refine EL.of (EO.storeBox (os' := Ass.box 112 a2 [sv b9 c0 b2, ia a7] :: os) hS 0 rfl 33 0 (sv b9 c0 b2) [sv b9 c0 b2, ia a7] (by kernel_rfl) (by kernel_rfl) (by kernel_rfl) (by kernel_rfl) (by kernel_rfl) (by kernel_rfl) rfl rfl ?_)
      intro w hS
      refine EL.done (by kernel_rfl) ?_
      refine EQ.code ?_
      refine EW.sq (by kernel_rfl) ?_
      refine EW.rg (by kernel_rfl) ?_
      refine EL.quick 2 [4] [(4, ic a9)] (by kernel_rfl) ?_
      refine EL.done (by kernel_rfl) ?_
      refine EQ.code ?_
      refine EW.ret (by kernel_rfl) ?_
      refine EQ.ret ?_
      refine EQ.ret ?_
      refine EQ.ret ?_
      refine EQ.ret ?_
      refine EQ.ret ?_
      simp only [sv, Option.some.injEq, Prod.mk.injEq] at H
      obtain ⟨rfl, rfl, rfl⟩ := H
      exact EQ.leave (ic a9) (by kernel_rfl) ⟨_, rfl, b9, c0, rfl, (hS.re [0] [] rfl (sub_cons 0 rfl (sub_tail (sub_self))))⟩
     rw [if_neg c9] at H
     refine EW.exit (id := 1) (by kernel_rfl) ?_
     refine EQ.exitCode ?_
     refine EQ.exitHere ?_
     refine EQ.to ?_
     refine EQ.keep [0, 1, 5, 16, 17, 18] [(0, pt a2 0), (1, ic a4), (5, ic a9), (16, sv (some a6) a3 a0), (17, ia (a0.length : Int)), (18, ia a1)] (by kernel_rfl) ?_
     exact fun a ha => ⟨a9, ha, (hS.re [0] [] rfl (sub_cons 0 rfl (sub_tail (sub_self)))), H⟩
    obtain ⟨b0, ha, hS, H⟩ := hI
    rw [f1] at H
    (try dsimp only at H)
    refine EW.at ?_ a ha
    clear ha a
    refine EW.rg (by kernel_rfl) ?_
    refine EL.quick 2 [0, 1, 5, 16, 17, 18] [(0, pt a2 0), (1, ic a4), (5, ic b0), (16, sv a8 a3 a0), (17, ia (a0.length : Int)), (18, ia (IntKind.i64.wrap (a1 + 1)))] (by kernel_rfl) ?_
    refine EL.done (by kernel_rfl) ?_
    refine EQ.to ?_
    refine EQ.keep [0, 1, 5, 16, 17, 18] [(0, pt a2 0), (1, ic a4), (5, ic b0), (16, sv a8 a3 a0), (17, ia (a0.length : Int)), (18, ia (IntKind.i64.wrap (a1 + 1)))] (by kernel_rfl) ?_
    exact fun a ha => ⟨n, Nat.lt_succ_self n, b0, IntKind.i64.wrap (a1 + 1), ha, (hS.re [0] [] rfl (sub_cons 0 rfl (sub_tail (sub_self)))), H⟩
   rw [if_neg b5] at H
   refine EW.exit (id := 0) (by kernel_rfl) ?_
   refine EQ.exitCode ?_
   refine EQ.exitTo ?_
   refine EQ.exitHere ?_
   refine EQ.to ?_
   refine EQ.keep [0] [(0, pt a2 0)] (by kernel_rfl) ?_
   exact fun a ha => ⟨ha, (hS.re [0] [] rfl (sub_cons 0 rfl (sub_tail (sub_self)))), H⟩
  obtain ⟨ha, hS, H⟩ := hI
  rw [f0] at H
  (try dsimp only at H)
  refine EW.at ?_ a ha
  clear ha a
  refine EW.sq (by kernel_rfl) ?_
  refine EW.rg (by kernel_rfl) ?_
  refine EL.quick 1 [62] [(62, pt a2 0)] (by kernel_rfl) ?_
  have hS : St B _ (Ass.box 112 a2 [sv a8 a3 a0, ia a7] :: os) (Ro.sl (Kd.int .u8) a8 a3 a0 :: rs) := hS.re [0] [] rfl (sub_cons 0 rfl (sub_tail (sub_self)))
  obtain ⟨d9, e0, c6, e9, H⟩ := b3_out H
  have hq := pack_Reader_fail.calls e9 hS
  refine EL.of (EO.callD 81 [pt a2 0, ia 21] _ 63 (by kernel_rfl) (by kernel_rfl) (by kernel_rfl) hq ?_)
  rintro v w ⟨e3, e6, rfl, hS⟩
  refine EL.quick 1 [4] [(4, ic c6)] (by kernel_rfl) ?_
  refine EL.done (by kernel_rfl) ?_
  refine EQ.code ?_
  refine EW.ret (by kernel_rfl) ?_
  have hS := St.fr hS 1 rfl
  simp only [sv, Option.some.injEq, Prod.mk.injEq] at H
  obtain ⟨rfl, rfl, rfl⟩ := H
  exact EQ.leave (ic c6) (by kernel_rfl) ⟨_, rfl, e3, e6, rfl, (hS.re [0] [] rfl (sub_cons 0 rfl (sub_tail (sub_self))))⟩
 rw [if_neg d1] at H
 refine EW.sq (by kernel_rfl) ?_
 refine EW.rg (by kernel_rfl) ?_
 refine EL.quick 1 [4] [(4, ic 0)] (by kernel_rfl) ?_
 refine EL.done (by kernel_rfl) ?_
 refine EQ.code ?_
 refine EW.ret (by kernel_rfl) ?_
 refine EQ.ret ?_
 simp only [sv, Option.some.injEq, Prod.mk.injEq] at H
 obtain ⟨rfl, rfl, rfl⟩ := H
 exact EQ.leave (ic 0) (by kernel_rfl) ⟨_, rfl, a8, a3, rfl, (hS.re [0] [] rfl (sub_cons 0 rfl (sub_self)))⟩

/-! ### (*confidant/pack.Reader).Err: function 59 -/
def pack_Reader_Err.f (K : Nat) (a2 : List Int) (a0 : Int) : Option (List Int × Int × Int) := some (a2, a0, a0)
set_option maxRecDepth 100000 in
theorem pack_Reader_Err.calls {K : Nat} {a2 : List Int} {a0 : Int} {a1 : Nat} {a3 : Option Addr} {a4 : Nat} {a5 : List Int} {a8 : Int} {a9 : Int} {B w : World} {os : List Ass} {rs : List Ro} (H : pack_Reader_Err.f K a2 a0 = some (a5, a8, a9)) (hS : St B w (Ass.box 112 a1 [sv a3 a4 a2, ia a0] :: os) (Ro.sl (Kd.int .u8) a3 a4 a2 :: rs)) :
  Calls Tryd.prog 59 [pt a1 0].toArray w (fun en w' => ∃ v, en = .returned v ∧ ∃ a6 : Option Addr, ∃ a7 : Nat, v = ia a9 ∧ St B w' (Ass.box 112 a1 [sv a6 a7 a5, ia a8] :: os) (Ro.sl (Kd.int .u8) a6 a7 a5 :: Ro.sl (Kd.int .u8) a3 a4 a2 :: rs)) := by
 unfold pack_Reader_Err.f at H
 refine calls_of_EW (args := [pt a1 0]) (c := Cd59) 7 Tryd.func59 (by kernel_rfl) (by kernel_rfl) (by kernel_rfl) ?_
 refine EW.sq (by kernel_rfl) ?_
 refine EW.rg (by kernel_rfl) ?_
 refine EL.quick 1 [0] [(0, pt a1 0)] (by kernel_rfl) ?_
 refine EL.done (by kernel_rfl) ?_
 refine EQ.code ?_
 refine EW.sq (by kernel_rfl) ?_
 refine EW.rg (by kernel_rfl) ?_
 refine EL.quick 3 [5] [(5, pt a1 1)] (by kernel_rfl) ?_
 refine EL.of (EO.Y (YO.loadBox hS 0 rfl 43 1 1 (ia a0) 6 (by kernel_rfl) (by kernel_rfl) (by kernel_rfl) (by kernel_rfl)) ?_)
 refine EL.quick 1 [2] [(2, ia a0)] (by kernel_rfl) ?_
 refine EL.done (by kernel_rfl) ?_
 refine EQ.code ?_
 refine EW.ret (by kernel_rfl) ?_
 simp only [Option.some.injEq, Prod.mk.injEq] at H
 obtain ⟨rfl, rfl, rfl⟩ := H
 exact EQ.leave (ia a0) (by kernel_rfl) ⟨_, rfl, a3, a4, rfl, (hS.re [0] [] rfl (sub_cons 0 rfl (sub_self)))⟩

/-! ### confidant/trace.Read$1: function 56 -/
def trace_Read_1.f (K : Nat) (a1 : List Int) (a5 : Int) : Option (List Int × Int × Int) := b3 (pack_Reader_Num.f K a1 a5 2147483647) fun (b0 : List Int) (b1 : Int) (a6 : Int) => (some (b0, b1, IntKind.i64.wrap a6))
set_option maxRecDepth 100000 in
theorem trace_Read_1.calls {K : Nat} {a1 : List Int} {a5 : Int} {a2 : Nat} {a0 : Nat} {a3 : Option Addr} {a4 : Nat} {a7 : List Int} {b2 : Int} {b4 : Int} {B w : World} {os : List Ass} {rs : List Ro} (H : trace_Read_1.f K a1 a5 = some (a7, b2, b4)) (hS : St B w (Ass.box 61 a2 [pt a0 0] :: Ass.box 112 a0 [sv a3 a4 a1, ia a5] :: os) (Ro.sl (Kd.int .u8) a3 a4 a1 :: rs)) :
  Calls Tryd.prog 56 [pt a2 0].toArray w (fun en w' => ∃ v, en = .returned v ∧ ∃ a8 : Option Addr, ∃ a9 : Nat, v = ia b4 ∧ St B w' (Ass.box 112 a0 [sv a8 a9 a7, ia b2] :: Ass.box 61 a2 [pt a0 0] :: os) (Ro.sl (Kd.int .u8) a8 a9 a7 :: Ro.sl (Kd.int .u8) a3 a4 a1 :: rs)) := by
 unfold trace_Read_1.f at H
 refine calls_of_EW (args := [pt a2 0]) (c := Cd56) 5 Tryd.func56 (by kernel_rfl) (by kernel_rfl) (by kernel_rfl) ?_
 refine EW.sq (by kernel_rfl) ?_
 refine EW.rg (by kernel_rfl) ?_
 refine EL.quick 1 [0] [(0, pt a2 0)] (by kernel_rfl) ?_
 refine EL.done (by kernel_rfl) ?_
 refine EQ.code ?_
 refine EW.sq (by kernel_rfl) ?_
 refine EW.rg (by kernel_rfl) ?_
 refine EL.of (EO.Y (YO.loadBox hS 0 rfl 61 0 1 (pt a0 0) 2 (by kernel_rfl) (by kernel_rfl) (by kernel_rfl) (by kernel_rfl)) ?_)
 have hS : St B _ (Ass.box 112 a0 [sv a3 a4 a1, ia a5] :: Ass.box 61 a2 [pt a0 0] :: os) (Ro.sl (Kd.int .u8) a3 a4 a1 :: rs) := hS.re [1] [] rfl (sub_cons 0 rfl (sub_tail (sub_self)))
 obtain ⟨b0, b1, a6, b7, H⟩ := b3_out H
 have hq := pack_Reader_Num.calls b7 hS
 refine EL.of (EO.callD 57 [pt a0 0, ic 2147483647] _ 3 (by kernel_rfl) (by kernel_rfl) (by kernel_rfl) hq ?_)
 rintro v w ⟨b5, b6, rfl, hS⟩
 refine EL.quick 2 [1] [(1, ia (IntKind.i64.wrap a6))] (by kernel_rfl) ?_
 refine EL.done (by kernel_rfl) ?_
 refine EQ.code ?_
 refine EW.ret (by kernel_rfl) ?_
 simp only [sv, Option.some.injEq, Prod.mk.injEq] at H
 obtain ⟨rfl, rfl, rfl⟩ := H
 exact EQ.leave (ia (IntKind.i64.wrap a6)) (by kernel_rfl) ⟨_, rfl, b5, b6, rfl, (hS.re [1, 1] [] rfl (sub_cons 0 rfl (sub_tail (sub_self))))⟩

/-! ### confidant/trace.Read$2: function 58 -/
def trace_Read_2.f (K : Nat) (a1 : List Int) (a5 : Int) : Option (List Int × Int × Int) := b3 (pack_Reader_Num.f K a1 a5 4294967295) fun (b0 : List Int) (b1 : Int) (a6 : Int) => (some (b0, b1, IntKind.i32.wrap (IntKind.u32.wrap a6)))
set_option maxRecDepth 100000 in
theorem trace_Read_2.calls {K : Nat} {a1 : List Int} {a5 : Int} {a2 : Nat} {a0 : Nat} {a3 : Option Addr} {a4 : Nat} {a7 : List Int} {b2 : Int} {b4 : Int} {B w : World} {os : List Ass} {rs : List Ro} (H : trace_Read_2.f K a1 a5 = some (a7, b2, b4)) (hS : St B w (Ass.box 61 a2 [pt a0 0] :: Ass.box 112 a0 [sv a3 a4 a1, ia a5] :: os) (Ro.sl (Kd.int .u8) a3 a4 a1 :: rs)) :
  Calls Tryd.prog 58 [pt a2 0].toArray w (fun en w' => ∃ v, en = .returned v ∧ ∃ a8 : Option Addr, ∃ a9 : Nat, v = ib b4 ∧ St B w' (Ass.box 112 a0 [sv a8 a9 a7, ia b2] :: Ass.box 61 a2 [pt a0 0] :: os) (Ro.sl (Kd.int .u8) a8 a9 a7 :: Ro.sl (Kd.int .u8) a3 a4 a1 :: rs)) := by
 unfold trace_Read_2.f at H
 refine calls_of_EW (args := [pt a2 0]) (c := Cd58) 6 Tryd.func58 (by kernel_rfl) (by kernel_rfl) (by kernel_rfl) ?_
 refine EW.sq (by kernel_rfl) ?_
 refine EW.rg (by kernel_rfl) ?_
 refine EL.quick 1 [0] [(0, pt a2 0)] (by kernel_rfl) ?_
 refine EL.done (by kernel_rfl) ?_
 refine EQ.code ?_
 refine EW.sq (by kernel_rfl) ?_
 refine EW.rg (by kernel_rfl) ?_
 refine EL.of (EO.Y (YO.loadBox hS 0 rfl 61 0 1 (pt a0 0) 2 (by kernel_rfl) (by kernel_rfl) (by kernel_rfl) (by kernel_rfl)) ?_)
 have hS : St B _ (Ass.box 112 a0 [sv a3 a4 a1, ia a5] :: Ass.box 61 a2 [pt a0 0] :: os) (Ro.sl (Kd.int .u8) a3 a4 a1 :: rs) := hS.re [1] [] rfl (sub_cons 0 rfl (sub_tail (sub_self)))
 obtain ⟨b0, b1, a6, b7, H⟩ := b3_out H
 have hq := pack_Reader_Num.calls b7 hS
 refine EL.of (EO.callD 57 [pt a0 0, ic 4294967295] _ 3 (by kernel_rfl) (by kernel_rfl) (by kernel_rfl) hq ?_)
 rintro v w ⟨b5, b6, rfl, hS⟩
 refine EL.quick 3 [1] [(1, ib (IntKind.i32.wrap (IntKind.u32.wrap a6)))] (by kernel_rfl) ?_
 refine EL.done (by kernel_rfl) ?_
 refine EQ.code ?_
 refine EW.ret (by kernel_rfl) ?_
 simp only [sv, Option.some.injEq, Prod.mk.injEq] at H
 obtain ⟨rfl, rfl, rfl⟩ := H
 exact EQ.leave (ib (IntKind.i32.wrap (IntKind.u32.wrap a6))) (by kernel_rfl) ⟨_, rfl, b5, b6, rfl, (hS.re [1, 1] [] rfl (sub_cons 0 rfl (sub_tail (sub_self))))⟩

/-! ### bytes.Equal: function 60 -/
def bytes_Equal.f (K : Nat) (a0 : List Int) (a1 : List Int) : Option Bool := some ((bStr a0).toList == (bStr a1).toList)
set_option maxRecDepth 100000 in
theorem bytes_Equal.calls {K : Nat} {a0 : List Int} {a1 : List Int} {a4 : Option Addr} {a5 : Nat} {a2 : Option Addr} {a3 : Nat} {a6 : Bool} {B w : World} {os : List Ass} {rs : List Ro} (H : bytes_Equal.f K a0 a1 = some a6) (hS : St B w (os) (Ro.sl (Kd.int .u8) a4 a5 a0 :: Ro.sl (Kd.int .u8) a2 a3 a1 :: rs)) :
  Calls Tryd.prog 60 [sv a4 a5 a0, sv a2 a3 a1].toArray w (fun en w' => ∃ v, en = .returned v ∧ v = .bool (a6) ∧ St B w' (os) (Ro.sl (Kd.int .u8) a4 a5 a0 :: Ro.sl (Kd.int .u8) a2 a3 a1 :: rs)) := by
 unfold bytes_Equal.f at H
 refine calls_of_EW (args := [sv a4 a5 a0, sv a2 a3 a1]) (c := Cd60) 10 Tryd.func60 (by kernel_rfl) (by kernel_rfl) (by kernel_rfl) ?_
 refine EW.sq (by kernel_rfl) ?_
 refine EW.rg (by kernel_rfl) ?_
 refine EL.quick 1 [0, 1] [(0, sv a4 a5 a0), (1, sv a2 a3 a1)] (by kernel_rfl) ?_
 refine EL.done (by kernel_rfl) ?_
 refine EQ.code ?_
 refine EW.sq (by kernel_rfl) ?_
 refine EW.rg (by kernel_rfl) ?_
 refine EL.quick 1 [1, 5] [(1, sv a2 a3 a1), (5, sv a4 a5 a0)] (by kernel_rfl) ?_
 refine EL.of (EO.Y (YO.bstr hS a4 a5 a0 (Rd.ro 0 rfl) 33 9 5 6 (by kernel_rfl) (by kernel_rfl) (by kernel_rfl) (by kernel_rfl) (by kernel_rfl) (by kernel_rfl)) ?_)
 refine EL.quick 1 [6, 7] [(6, .string (bStr a0)), (7, sv a2 a3 a1)] (by kernel_rfl) ?_
 refine EL.of (EO.Y (YO.bstr hS a2 a3 a1 (Rd.ro 1 rfl) 33 9 5 8 (by kernel_rfl) (by kernel_rfl) (by kernel_rfl) (by kernel_rfl) (by kernel_rfl) (by kernel_rfl)) ?_)
 refine EL.quick 2 [4] [(4, .bool (((bStr a0).toList == (bStr a1).toList)))] (by kernel_rfl) ?_
 refine EL.done (by kernel_rfl) ?_
 refine EQ.code ?_
 refine EW.ret (by kernel_rfl) ?_
 obtain rfl := Option.some.inj H
 exact EQ.leave (.bool (((bStr a0).toList == (bStr a1).toList))) (by kernel_rfl) ⟨_, rfl, rfl, (hS.re [] [] rfl (sub_self))⟩

/-! ### confidant/trace.Read: function 27 -/
def trace_Read.l0 (K : Nat) (e6 : (List Int) → Int → (List S28) → Option (List S28 × Int)) : Nat → (List Int) → Int → (List S28) → Int → Option (List S28 × Int)
 | 0, _, _, _, _ => none
 | n + 1, c5, e2, a5, a8 => lt (fun (c6 : List Int) (e3 : Int) (g7 : Bool) => (if g7 = true then (b3 (trace_Read_1.f K c6 e3) fun (d6 : List Int) (m8 : Int) (b0 : Int) => (b3 (trace_Read_1.f K d6 m8) fun (e1 : List Int) (m9 : Int) (b4 : Int) => (b3 (trace_Read_1.f K e1 m9) fun (e8 : List Int) (n0 : Int) (b5 : Int) => (b3 (trace_Read_1.f K e8 n0) fun (g0 : List Int) (n1 : Int) (b6 : Int) => (b3 (trace_Read_1.f K g0 n1) fun (g1 : List Int) (j6 : Int) (b7 : Int) => (b3 (trace_Read_2.f K g1 j6) fun (j7 : List Int) (n2 : Int) (c1 : Int) => (b3 (trace_Read_2.f K j7 n2) fun (g2 : List Int) (g3 : Int) (c2 : Int) => (lt ([(⟨b0, b4, b5, b6, IntKind.i32.wrap b7, c1, c2⟩ : S28)] : List S28) fun f9 => (if (a5.length + f9.length) * 48 ≤ 140737488355328 then (lt (a5 ++ f9) fun e0 => (trace_Read.l0 K e6 n g2 g3 e0 (IntKind.u64.wrap (a8 - 1)))) else none))))))))) else (e6 c6 e3 a5))) fun j3 => (if a8 > 0 then (b3 (pack_Reader_Err.f K c5 e2) fun (m6 : List Int) (m7 : Int) (e7 : Int) => (j3 m6 m7 (decide (e7 = 0)))) else (j3 c5 e2 false))
def trace_Read.f (K : Nat) (a1 : List Int) : Option (List S28 × Int) := b2 (pack_New.f K a1) fun (c0 : List Int) (j5 : Int) => (lt (fun (d5 : List Int) (g6 : Int) (a9 : List S28) => (lt (fun (i4 : List Int) (j8 : Int) (g8 : Bool) => (if g8 = true then (some (([] : List S28), 20)) else (some (a9, 0)))) fun j4 => (b3 (pack_Reader_Err.f K d5 g6) fun (d7 : List Int) (e9 : Int) (g4 : Int) => (if g4 = 0 then (b1 (trace_Put.f K a9) fun (i2 : List Int) => (b1 (bytes_Equal.f K i2 a1) fun (i3 : Bool) => (j4 d7 e9 (!(i3))))) else (j4 d7 e9 true))))) fun e6 => (b3 (pack_Reader_Num.f K c0 j5 9223372036854775807) fun (d0 : List Int) (m5 : Int) (i1 : Int) => (trace_Read.l0 K e6 K d0 m5 ([] : List S28) i1)))
set_option maxRecDepth 100000 in
theorem trace_Read.calls {K : Nat} {a1 : List Int} {a2 : Option Addr} {a3 : Nat} {f0 : List S28} {g5 : Int} {B w : World} {os : List Ass} {rs : List Ro} (H : trace_Read.f K a1 = some (f0, g5)) (hS : St B w (os) (Ro.sl (Kd.int .u8) a2 a3 a1 :: rs)) :
  Calls Tryd.prog 27 [sv a2 a3 a1].toArray w (fun en w' => ∃ v, en = .returned v ∧ ∃ n3 : Option Addr, ∃ n5 : Nat, v = .tuple #[sv n3 n5 f0, ia g5] ∧ St B w' (os) (Ro.sl kS28 n3 n5 f0 :: Ro.sl (Kd.int .u8) a2 a3 a1 :: rs)) := by
 unfold trace_Read.f at H
 refine calls_of_EW (args := [sv a2 a3 a1]) (c := Cd27) 58 Tryd.func27 (by kernel_rfl) (by kernel_rfl) (by kernel_rfl) ?_
 refine EW.sq (by kernel_rfl) ?_
 refine EW.rg (by kernel_rfl) ?_
 refine EL.quick 2 [0] [(0, sv a2 a3 a1)] (by kernel_rfl) ?_
 refine EL.done (by kernel_rfl) ?_
 refine EQ.code ?_
 refine EW.sq (by kernel_rfl) ?_
 refine EW.rg (by kernel_rfl) ?_
 refine EL.quick 1 [0, 4] [(0, sv a2 a3 a1), (4, sv none 0 ([] : List S28))] (by kernel_rfl) ?_
 refine EL.done (by kernel_rfl) ?_
 refine EQ.code ?_
 refine EW.sq (by kernel_rfl) ?_
 refine EW.rg (by kernel_rfl) ?_
 refine EL.quick 1 [0, 4, 10] [(0, sv a2 a3 a1), (4, sv none 0 ([] : List S28)), (10, sv a2 a3 a1)] (by kernel_rfl) ?_
 have hS : St B _ (os) (Ro.sl (Kd.int .u8) a2 a3 a1 :: rs) := hS.re [] [] rfl (sub_cons 0 rfl (sub_tail (sub_self)))
 obtain ⟨c0, j5, o2, H⟩ := b2_out H
 have hq := pack_New.calls o2 hS
 refine EL.of (EO.callD 35 [sv a2 a3 a1] _ 11 (by kernel_rfl) (by kernel_rfl) (by kernel_rfl) hq ?_)
 rintro v w ⟨a4, c3, c4, rfl, hS⟩
 refine EL.of (EO.alloc hS 61 (.pointer none) [.pointer none] 5 (by kernel_rfl) (by kernel_rfl) (by kernel_rfl) (by kernel_rfl) (by first | rfl | kernel_rfl) ?_)
 intro a0 w hS
 refine EL.of (EO.storeBox (os' := Ass.box 61 a0 [pt a4 0] :: Ass.box 112 a4 [sv c3 c4 c0, ia j5] :: os) hS 0 rfl 61 0 (pt a4 0) [pt a4 0] (by kernel_rfl) (by kernel_rfl) (by kernel_rfl) (by kernel_rfl) (by kernel_rfl) (by kernel_rfl) rfl rfl ?_)
 intro w hS
 refine EL.done (by kernel_rfl) ?_
 refine EQ.code ?_
 refine EW.sq (by kernel_rfl) ?_
 refine EW.rg (by kernel_rfl) ?_
 refine EL.quick 2 [0, 4, 5, 6] [(0, sv a2 a3 a1), (4, sv none 0 ([] : List S28)), (5, pt a0 0), (6, .func (.func 56) #[] #[pt a0 0])] (by kernel_rfl) ?_
 refine EL.done (by kernel_rfl) ?_
 refine EQ.code ?_
 refine EW.sq (by kernel_rfl) ?_
 refine EW.rg (by kernel_rfl) ?_
 refine EL.quick 2 [0, 4, 5, 6, 7] [(0, sv a2 a3 a1), (4, sv none 0 ([] : List S28)), (5, pt a0 0), (6, .func (.func 56) #[] #[pt a0 0]), (7, .func (.func 58) #[] #[pt a0 0])] (by kernel_rfl) ?_
 refine EL.done (by kernel_rfl) ?_
 refine EQ.code ?_
 obtain ⟨e6, p5, H⟩ := lt_out H
 refine EW.ct (fun a w => ∃ d5 : List Int, ∃ g6 : Int, ∃ a9 : List S28, ∃ d8 : Option Addr, ∃ d9 : Nat, ∃ b8 : Option Addr, ∃ b9 : Nat, Sat 58 [(0, sv a2 a3 a1), (4, sv b8 b9 a9), (5, pt a0 0)] a ∧ St B w (Ass.box 112 a4 [sv d8 d9 d5, ia g6] :: Ass.box 61 a0 [pt a4 0] :: Ass.own 28 kS28 b8 b9 a9 :: os) (Ro.sl (Kd.int .u8) d8 d9 d5 :: Ro.sl (Kd.int .u8) c3 c4 c0 :: Ro.sl (Kd.int .u8) a2 a3 a1 :: rs) ∧ e6 d5 g6 a9 = some (f0, g5)) (by kernel_rfl) ?_ (fun a w hI => ?_)
 ·refine EW.sq (by kernel_rfl) ?_
  refine EW.rg (by kernel_rfl) ?_
  refine EL.of (EO.Y (YO.loadBox hS 0 rfl 61 0 1 (pt a4 0) 14 (by kernel_rfl) (by kernel_rfl) (by kernel_rfl) (by kernel_rfl)) ?_)
  have hS : St B _ (Ass.box 112 a4 [sv c3 c4 c0, ia j5] :: Ass.box 61 a0 [pt a4 0] :: os) (Ro.sl (Kd.int .u8) c3 c4 c0 :: Ro.sl (Kd.int .u8) a2 a3 a1 :: rs) := hS.re [1] [] rfl (sub_cons 0 rfl (sub_tail (sub_self)))
  obtain ⟨d0, m5, i1, o3, H⟩ := b3_out H
  have hq := pack_Reader_Num.calls o3 hS
  refine EL.of (EO.callD 57 [pt a4 0, ic 9223372036854775807] _ 15 (by kernel_rfl) (by kernel_rfl) (by kernel_rfl) hq ?_)
  rintro v w ⟨d3, d4, rfl, hS⟩
  refine EL.quick 1 [0, 4, 5, 6, 7, 8] [(0, sv a2 a3 a1), (4, sv none 0 ([] : List S28)), (5, pt a0 0), (6, .func (.func 56) #[] #[pt a0 0]), (7, .func (.func 58) #[] #[pt a0 0]), (8, ic i1)] (by kernel_rfl) ?_
  refine EL.done (by kernel_rfl) ?_
  refine EQ.code ?_
  refine EW.bl 0 (by kernel_rfl) ?_
  have hS := St.nilO hS 28 kS28
  refine EW.lp (fun n a w => ∃ c5 : List Int, ∃ e2 : Int, ∃ a5 : List S28, ∃ a8 : Int, ∃ c7 : Option Addr, ∃ c8 : Nat, ∃ a6 : Option Addr, ∃ a7 : Nat, Sat 58 [(0, sv a2 a3 a1), (4, sv a6 a7 a5), (5, pt a0 0), (6, .func (.func 56) #[] #[pt a0 0]), (7, .func (.func 58) #[] #[pt a0 0]), (8, ic a8)] a ∧ St B w (Ass.box 112 a4 [sv c7 c8 c5, ia e2] :: Ass.box 61 a0 [pt a4 0] :: Ass.own 28 kS28 a6 a7 a5 :: os) (Ro.sl (Kd.int .u8) c7 c8 c5 :: Ro.sl (Kd.int .u8) d3 d4 d0 :: Ro.sl (Kd.int .u8) c3 c4 c0 :: Ro.sl (Kd.int .u8) a2 a3 a1 :: rs) ∧ trace_Read.l0 K e6 n c5 e2 a5 a8 = some (f0, g5)) K (by kernel_rfl) ?_ (fun n a w hI => ?_)
  ·refine EQ.keep [0, 4, 5, 6, 7, 8] [(0, sv a2 a3 a1), (4, sv none 0 ([] : List S28)), (5, pt a0 0), (6, .func (.func 56) #[] #[pt a0 0]), (7, .func (.func 58) #[] #[pt a0 0]), (8, ic i1)] (by kernel_rfl) ?_
   exact fun a ha => ⟨d0, m5, ([] : List S28), i1, d3, d4, none, 0, ha, (hS.re [0, 2, 2] [] rfl (sub_cons 0 rfl (sub_cons 0 rfl (sub_cons 1 rfl (sub_cons 2 rfl (sub_tail (sub_tail (sub_tail (sub_self))))))))), H⟩
  obtain ⟨c5, e2, a5, a8, c7, c8, a6, a7, ha, hS, H⟩ := hI
  obtain _ | n := n
  ·simp [trace_Read.l0] at H
  rw [trace_Read.l0.eq_2] at H
  refine EW.at ?_ a ha
  clear ha a
  refine EW.sq (by kernel_rfl) ?_
  obtain ⟨j3, p6, H⟩ := lt_out H
  refine EW.ct (fun a w => ∃ c6 : List Int, ∃ e3 : Int, ∃ g7 : Bool, ∃ d1 : Option Addr, ∃ d2 : Nat, Sat 58 [(0, sv a2 a3 a1), (4, sv a6 a7 a5), (5, pt a0 0), (6, .func (.func 56) #[] #[pt a0 0]), (7, .func (.func 58) #[] #[pt a0 0]), (8, ic a8), (22, .bool (g7))] a ∧ St B w (Ass.box 112 a4 [sv d1 d2 c6, ia e3] :: Ass.box 61 a0 [pt a4 0] :: Ass.own 28 kS28 a6 a7 a5 :: os) (Ro.sl (Kd.int .u8) d1 d2 c6 :: Ro.sl (Kd.int .u8) c7 c8 c5 :: Ro.sl (Kd.int .u8) d3 d4 d0 :: Ro.sl (Kd.int .u8) c3 c4 c0 :: Ro.sl (Kd.int .u8) a2 a3 a1 :: rs) ∧ j3 c6 e3 g7 = some (f0, g5)) (by kernel_rfl) ?_ (fun a w hI => ?_)
  ·refine EW.rg (by kernel_rfl) ?_
   refine EL.quick 3 [0, 4, 5, 6, 7, 8, 18] [(0, sv a2 a3 a1), (4, sv a6 a7 a5), (5, pt a0 0), (6, .func (.func 56) #[] #[pt a0 0]), (7, .func (.func 58) #[] #[pt a0 0]), (8, ic a8), (18, .bool (decide (a8 > 0)))] (by kernel_rfl) ?_
   by_cases j1 : a8 > 0
   ·rw [if_pos j1] at H
    refine EL.keep [0, 4, 5, 6, 7, 8, 18] [(0, sv a2 a3 a1), (4, sv a6 a7 a5), (5, pt a0 0), (6, .func (.func 56) #[] #[pt a0 0]), (7, .func (.func 58) #[] #[pt a0 0]), (8, ic a8), (18, .bool (decide (a8 > 0)))] (by kernel_rfl) ?_
    refine EL.as' [(0, sv a2 a3 a1), (4, sv a6 a7 a5), (5, pt a0 0), (6, .func (.func 56) #[] #[pt a0 0]), (7, .func (.func 58) #[] #[pt a0 0]), (8, ic a8), (18, .bool (true))] (by simp only [encS28, sv, dec_t j1, Bool.not_true, Bool.not_false]) ?_
    refine EL.of (EO.Y (YO.loadBox hS 1 rfl 61 0 1 (pt a4 0) 19 (by kernel_rfl) (by kernel_rfl) (by kernel_rfl) (by kernel_rfl)) ?_)
    have hS : St B _ (Ass.box 112 a4 [sv c7 c8 c5, ia e2] :: Ass.box 61 a0 [pt a4 0] :: Ass.own 28 kS28 a6 a7 a5 :: os) (Ro.sl (Kd.int .u8) c7 c8 c5 :: Ro.sl (Kd.int .u8) d3 d4 d0 :: Ro.sl (Kd.int .u8) c3 c4 c0 :: Ro.sl (Kd.int .u8) a2 a3 a1 :: rs) := hS.re [0] [] rfl (sub_cons 0 rfl (sub_tail (sub_self)))
    obtain ⟨m6, m7, e7, o4, H⟩ := b3_out H
    have hq := pack_Reader_Err.calls o4 hS
    refine EL.of (EO.callD 59 [pt a4 0] _ 20 (by kernel_rfl) (by kernel_rfl) (by kernel_rfl) hq ?_)
    rintro v w ⟨n9, o0, rfl, hS⟩
    refine EL.quick 2 [0, 4, 5, 6, 7, 8, 19, 20, 21, 22] [(0, sv a2 a3 a1), (4, sv a6 a7 a5), (5, pt a0 0), (6, .func (.func 56) #[] #[pt a0 0]), (7, .func (.func 58) #[] #[pt a0 0]), (8, ic a8), (19, pt a4 0), (20, ia e7), (21, .bool (decide (e7 = 0))), (22, .bool (decide (e7 = 0)))] (by kernel_rfl) ?_
    refine EL.done (by kernel_rfl) ?_
    refine EQ.to ?_
    refine EQ.keep [0, 4, 5, 6, 7, 8, 22] [(0, sv a2 a3 a1), (4, sv a6 a7 a5), (5, pt a0 0), (6, .func (.func 56) #[] #[pt a0 0]), (7, .func (.func 58) #[] #[pt a0 0]), (8, ic a8), (22, .bool (decide (e7 = 0)))] (by kernel_rfl) ?_
    exact fun a ha => ⟨m6, m7, decide (e7 = 0), n9, o0, ha, (hS.re [2, 2, 2] [] rfl (sub_cons 0 rfl (sub_cons 1 rfl (sub_cons 2 rfl (sub_cons 3 rfl (sub_cons 4 rfl (sub_tail (sub_tail (sub_tail (sub_tail (sub_tail (sub_self)))))))))))), H⟩
   rw [if_neg j1] at H
   refine EL.keep [0, 4, 5, 6, 7, 8, 18] [(0, sv a2 a3 a1), (4, sv a6 a7 a5), (5, pt a0 0), (6, .func (.func 56) #[] #[pt a0 0]), (7, .func (.func 58) #[] #[pt a0 0]), (8, ic a8), (18, .bool (decide (a8 > 0)))] (by kernel_rfl) ?_
   refine EL.as' [(0, sv a2 a3 a1), (4, sv a6 a7 a5), (5, pt a0 0), (6, .func (.func 56) #[] #[pt a0 0]), (7, .func (.func 58) #[] #[pt a0 0]), (8, ic a8), (18, .bool (false))] (by simp only [encS28, sv, dec_f j1, Bool.not_true, Bool.not_false]) ?_
   refine EL.quick 4 [0, 4, 5, 6, 7, 8, 22] [(0, sv a2 a3 a1), (4, sv a6 a7 a5), (5, pt a0 0), (6, .func (.func 56) #[] #[pt a0 0]), (7, .func (.func 58) #[] #[pt a0 0]), (8, ic a8), (22, .bool (false))] (by kernel_rfl) ?_
   refine EL.done (by kernel_rfl) ?_
   refine EQ.to ?_
   refine EQ.keep [0, 4, 5, 6, 7, 8, 22] [(0, sv a2 a3 a1), (4, sv a6 a7 a5), (5, pt a0 0), (6, .func (.func 56) #[] #[pt a0 0]), (7, .func (.func 58) #[] #[pt a0 0]), (8, ic a8), (22, .bool (false))] (by kernel_rfl) ?_
   exact fun a ha => ⟨c5, e2, false, c7, c8, ha, (hS.re [2, 2, 2] [] rfl (sub_cons 0 rfl (sub_cons 0 rfl (sub_cons 1 rfl (sub_cons 2 rfl (sub_cons 3 rfl (sub_tail (sub_tail (sub_tail (sub_tail (sub_self))))))))))), H⟩
  obtain ⟨c6, e3, g7, d1, d2, ha, hS, H⟩ := hI
  rw [p6] at H
  (try dsimp only at H)
  refine EW.at ?_ a ha
  clear ha a
  refine EW.cdP' (g7) (by kernel_rfl) (by kernel_rfl) (fun m3 => ?_) (fun m3 => ?_)
  ·rw [if_pos m3] at H
   refine EW.skip (by kernel_rfl) ?_
   refine EQ.code ?_
   refine EW.sq (by kernel_rfl) ?_
   refine EW.bl 1 (by kernel_rfl) ?_
   refine EW.sq (by kernel_rfl) ?_
   refine EW.rg (by kernel_rfl) ?_
   refine EL.quick 1 [0, 4, 5, 6, 7, 8, 25] [(0, sv a2 a3 a1), (4, sv a6 a7 a5), (5, pt a0 0), (6, .func (.func 56) #[] #[pt a0 0]), (7, .func (.func 58) #[] #[pt a0 0]), (8, ic a8), (25, .func (.func 56) #[] #[pt a0 0])] (by kernel_rfl) ?_
   have hS : St B _ (Ass.box 61 a0 [pt a4 0] :: Ass.box 112 a4 [sv d1 d2 c6, ia e3] :: Ass.own 28 kS28 a6 a7 a5 :: os) (Ro.sl (Kd.int .u8) d1 d2 c6 :: Ro.sl (Kd.int .u8) c7 c8 c5 :: Ro.sl (Kd.int .u8) d3 d4 d0 :: Ro.sl (Kd.int .u8) c3 c4 c0 :: Ro.sl (Kd.int .u8) a2 a3 a1 :: rs) := hS.re [0, 1] [] rfl (sub_cons 0 rfl (sub_tail (sub_self)))
   obtain ⟨d6, m8, b0, o5, H⟩ := b3_out H
   have hq := trace_Read_1.calls o5 hS
   refine EL.of (EO.callD 56 [pt a0 0] _ 26 (by kernel_rfl) (by kernel_rfl) (by kernel_rfl) hq ?_)
   rintro v w ⟨e4, e5, rfl, hS⟩
   refine EL.quick 1 [0, 4, 5, 6, 7, 8, 26, 27] [(0, sv a2 a3 a1), (4, sv a6 a7 a5), (5, pt a0 0), (6, .func (.func 56) #[] #[pt a0 0]), (7, .func (.func 58) #[] #[pt a0 0]), (8, ic a8), (26, ia b0), (27, .func (.func 56) #[] #[pt a0 0])] (by kernel_rfl) ?_
   have hS : St B _ (Ass.box 61 a0 [pt a4 0] :: Ass.box 112 a4 [sv e4 e5 d6, ia m8] :: Ass.own 28 kS28 a6 a7 a5 :: os) (Ro.sl (Kd.int .u8) e4 e5 d6 :: Ro.sl (Kd.int .u8) d1 d2 c6 :: Ro.sl (Kd.int .u8) c7 c8 c5 :: Ro.sl (Kd.int .u8) d3 d4 d0 :: Ro.sl (Kd.int .u8) c3 c4 c0 :: Ro.sl (Kd.int .u8) a2 a3 a1 :: rs) := hS.re [0, 1] [] rfl (sub_cons 0 rfl (sub_tail (sub_self)))
   obtain ⟨e1, m9, b4, o6, H⟩ := b3_out H
   have hq := trace_Read_1.calls o6 hS
   refine EL.of (EO.callD 56 [pt a0 0] _ 28 (by kernel_rfl) (by kernel_rfl) (by kernel_rfl) hq ?_)
   rintro v w ⟨f1, f5, rfl, hS⟩
   refine EL.quick 1 [0, 4, 5, 6, 7, 8, 26, 28, 29] [(0, sv a2 a3 a1), (4, sv a6 a7 a5), (5, pt a0 0), (6, .func (.func 56) #[] #[pt a0 0]), (7, .func (.func 58) #[] #[pt a0 0]), (8, ic a8), (26, ia b0), (28, ia b4), (29, .func (.func 56) #[] #[pt a0 0])] (by kernel_rfl) ?_
   have hS : St B _ (Ass.box 61 a0 [pt a4 0] :: Ass.box 112 a4 [sv f1 f5 e1, ia m9] :: Ass.own 28 kS28 a6 a7 a5 :: os) (Ro.sl (Kd.int .u8) f1 f5 e1 :: Ro.sl (Kd.int .u8) e4 e5 d6 :: Ro.sl (Kd.int .u8) d1 d2 c6 :: Ro.sl (Kd.int .u8) c7 c8 c5 :: Ro.sl (Kd.int .u8) d3 d4 d0 :: Ro.sl (Kd.int .u8) c3 c4 c0 :: Ro.sl (Kd.int .u8) a2 a3 a1 :: rs) := hS.re [0, 1] [] rfl (sub_cons 0 rfl (sub_tail (sub_self)))
   obtain ⟨e8, n0, b5, o7, H⟩ := b3_out H
   have hq := trace_Read_1.calls o7 hS
   refine EL.of (EO.callD 56 [pt a0 0] _ 30 (by kernel_rfl) (by kernel_rfl) (by kernel_rfl) hq ?_)
   rintro v w ⟨g9, i0, rfl, hS⟩
   refine EL.quick 1 [0, 4, 5, 6, 7, 8, 26, 28, 30, 31] [(0, sv a2 a3 a1), (4, sv a6 a7 a5), (5, pt a0 0), (6, .func (.func 56) #[] #[pt a0 0]), (7, .func (.func 58) #[] #[pt a0 0]), (8, ic a8), (26, ia b0), (28, ia b4), (30, ia b5), (31, .func (.func 56) #[] #[pt a0 0])] (by kernel_rfl) ?_
   have hS : St B _ (Ass.box 61 a0 [pt a4 0] :: Ass.box 112 a4 [sv g9 i0 e8, ia n0] :: Ass.own 28 kS28 a6 a7 a5 :: os) (Ro.sl (Kd.int .u8) g9 i0 e8 :: Ro.sl (Kd.int .u8) f1 f5 e1 :: Ro.sl (Kd.int .u8) e4 e5 d6 :: Ro.sl (Kd.int .u8) d1 d2 c6 :: Ro.sl (Kd.int .u8) c7 c8 c5 :: Ro.sl (Kd.int .u8) d3 d4 d0 :: Ro.sl (Kd.int .u8) c3 c4 c0 :: Ro.sl (Kd.int .u8) a2 a3 a1 :: rs) := hS.re [0, 1] [] rfl (sub_cons 0 rfl (sub_tail (sub_self)))
   obtain ⟨g0, n1, b6, o8, H⟩ := b3_out H
   have hq := trace_Read_1.calls o8 hS
   refine EL.of (EO.callD 56 [pt a0 0] _ 32 (by kernel_rfl) (by kernel_rfl) (by kernel_rfl) hq ?_)
   rintro v w ⟨i5, i8, rfl, hS⟩
   refine EL.quick 1 [0, 4, 5, 6, 7, 8, 26, 28, 30, 32, 33] [(0, sv a2 a3 a1), (4, sv a6 a7 a5), (5, pt a0 0), (6, .func (.func 56) #[] #[pt a0 0]), (7, .func (.func 58) #[] #[pt a0 0]), (8, ic a8), (26, ia b0), (28, ia b4), (30, ia b5), (32, ia b6), (33, .func (.func 56) #[] #[pt a0 0])] (by kernel_rfl) ?_
   have hS : St B _ (Ass.box 61 a0 [pt a4 0] :: Ass.box 112 a4 [sv i5 i8 g0, ia n1] :: Ass.own 28 kS28 a6 a7 a5 :: os) (Ro.sl (Kd.int .u8) i5 i8 g0 :: Ro.sl (Kd.int .u8) g9 i0 e8 :: Ro.sl (Kd.int .u8) f1 f5 e1 :: Ro.sl (Kd.int .u8) e4 e5 d6 :: Ro.sl (Kd.int .u8) d1 d2 c6 :: Ro.sl (Kd.int .u8) c7 c8 c5 :: Ro.sl (Kd.int .u8) d3 d4 d0 :: Ro.sl (Kd.int .u8) c3 c4 c0 :: Ro.sl (Kd.int .u8) a2 a3 a1 :: rs) := hS.re [0, 1] [] rfl (sub_cons 0 rfl (sub_tail (sub_self)))
   obtain ⟨g1, j6, b7, o9, H⟩ := b3_out H
   have hq := trace_Read_1.calls o9 hS
   refine EL.of (EO.callD 56 [pt a0 0] _ 34 (by kernel_rfl) (by kernel_rfl) (by kernel_rfl) hq ?_)
   rintro v w ⟨i6, i9, rfl, hS⟩
   refine EL.quick 2 [0, 4, 5, 6, 7, 8, 36] [(0, sv a2 a3 a1), (4, sv a6 a7 a5), (5, pt a0 0), (6, .func (.func 56) #[] #[pt a0 0]), (7, .func (.func 58) #[] #[pt a0 0]), (8, ic a8), (36, ag [ia b0, ia b4, ia b5, ia b6, ib (IntKind.i32.wrap b7), ib 0, ib 0])] (by kernel_rfl) ?_
   refine EL.of (EO.alloc hS 28 (ag (encS28 zS28)) (encS28 zS28) 9 (by kernel_rfl) (by kernel_rfl) (by kernel_rfl) (by kernel_rfl) (by first | rfl | kernel_rfl) ?_)
   intro c9 w hS
   refine EL.of (EO.storeBox (os' := Ass.box 28 c9 [ia b0, ia b4, ia b5, ia b6, ib (IntKind.i32.wrap b7), ib 0, ib 0] :: Ass.box 112 a4 [sv i6 i9 g1, ia j6] :: Ass.box 61 a0 [pt a4 0] :: Ass.own 28 kS28 a6 a7 a5 :: os) hS 0 rfl 28 0 (ag [ia b0, ia b4, ia b5, ia b6, ib (IntKind.i32.wrap b7), ib 0, ib 0]) [ia b0, ia b4, ia b5, ia b6, ib (IntKind.i32.wrap b7), ib 0, ib 0] (by kernel_rfl) (by kernel_rfl) (by kernel_rfl) (by kernel_rfl) (by kernel_rfl) (by kernel_rfl) rfl rfl ?_)
   intro w hS
   refine EL.done (by kernel_rfl) ?_
   refine EQ.code ?_
   refine EW.sq (by kernel_rfl) ?_
   refine EW.rg (by kernel_rfl) ?_
   refine EL.quick 1 [0, 4, 5, 6, 7, 8, 9, 37] [(0, sv a2 a3 a1), (4, sv a6 a7 a5), (5, pt a0 0), (6, .func (.func 56) #[] #[pt a0 0]), (7, .func (.func 58) #[] #[pt a0 0]), (8, ic a8), (9, pt c9 0), (37, .func (.func 58) #[] #[pt a0 0])] (by kernel_rfl) ?_
   have hS : St B _ (Ass.box 61 a0 [pt a4 0] :: Ass.box 112 a4 [sv i6 i9 g1, ia j6] :: Ass.box 28 c9 [ia b0, ia b4, ia b5, ia b6, ib (IntKind.i32.wrap b7), ib 0, ib 0] :: Ass.own 28 kS28 a6 a7 a5 :: os) (Ro.sl (Kd.int .u8) i6 i9 g1 :: Ro.sl (Kd.int .u8) i5 i8 g0 :: Ro.sl (Kd.int .u8) g9 i0 e8 :: Ro.sl (Kd.int .u8) f1 f5 e1 :: Ro.sl (Kd.int .u8) e4 e5 d6 :: Ro.sl (Kd.int .u8) d1 d2 c6 :: Ro.sl (Kd.int .u8) c7 c8 c5 :: Ro.sl (Kd.int .u8) d3 d4 d0 :: Ro.sl (Kd.int .u8) c3 c4 c0 :: Ro.sl (Kd.int .u8) a2 a3 a1 :: rs) := hS.re [1, 2] [] rfl (sub_cons 0 rfl (sub_tail (sub_self)))
   obtain ⟨j7, n2, c1, p0, H⟩ := b3_out H
   have hq := trace_Read_2.calls p0 hS
   refine EL.of (EO.callD 58 [pt a0 0] _ 38 (by kernel_rfl) (by kernel_rfl) (by kernel_rfl) hq ?_)
   rintro v w ⟨n4, n6, rfl, hS⟩
   refine EL.quick 1 [0, 4, 5, 6, 7, 8, 9, 38, 39] [(0, sv a2 a3 a1), (4, sv a6 a7 a5), (5, pt a0 0), (6, .func (.func 56) #[] #[pt a0 0]), (7, .func (.func 58) #[] #[pt a0 0]), (8, ic a8), (9, pt c9 0), (38, ib c1), (39, .func (.func 58) #[] #[pt a0 0])] (by kernel_rfl) ?_
   have hS : St B _ (Ass.box 61 a0 [pt a4 0] :: Ass.box 112 a4 [sv n4 n6 j7, ia n2] :: Ass.box 28 c9 [ia b0, ia b4, ia b5, ia b6, ib (IntKind.i32.wrap b7), ib 0, ib 0] :: Ass.own 28 kS28 a6 a7 a5 :: os) (Ro.sl (Kd.int .u8) n4 n6 j7 :: Ro.sl (Kd.int .u8) i6 i9 g1 :: Ro.sl (Kd.int .u8) i5 i8 g0 :: Ro.sl (Kd.int .u8) g9 i0 e8 :: Ro.sl (Kd.int .u8) f1 f5 e1 :: Ro.sl (Kd.int .u8) e4 e5 d6 :: Ro.sl (Kd.int .u8) d1 d2 c6 :: Ro.sl (Kd.int .u8) c7 c8 c5 :: Ro.sl (Kd.int .u8) d3 d4 d0 :: Ro.sl (Kd.int .u8) c3 c4 c0 :: Ro.sl (Kd.int .u8) a2 a3 a1 :: rs) := hS.re [0, 1] [] rfl (sub_cons 0 rfl (sub_tail (sub_self)))
   obtain ⟨g2, g3, c2, p1, H⟩ := b3_out H
   have hq := trace_Read_2.calls p1 hS
   refine EL.of (EO.callD 58 [pt a0 0] _ 40 (by kernel_rfl) (by kernel_rfl) (by kernel_rfl) hq ?_)
   rintro v w ⟨i7, j0, rfl, hS⟩
   refine EL.quick 1 [0, 4, 5, 6, 7, 8, 9, 38, 40, 41] [(0, sv a2 a3 a1), (4, sv a6 a7 a5), (5, pt a0 0), (6, .func (.func 56) #[] #[pt a0 0]), (7, .func (.func 58) #[] #[pt a0 0]), (8, ic a8), (9, pt c9 0), (38, ib c1), (40, ib c2), (41, pt c9 5)] (by kernel_rfl) ?_
   refine EL.of (EO.storeBox (os' := Ass.box 112 a4 [sv i7 j0 g2, ia g3] :: Ass.box 61 a0 [pt a4 0] :: Ass.box 28 c9 [ia b0, ia b4, ia b5, ia b6, ib (IntKind.i32.wrap b7), ib c1, ib 0] :: Ass.own 28 kS28 a6 a7 a5 :: os) hS 2 rfl 21 5 (ib c1) [ia b0, ia b4, ia b5, ia b6, ib (IntKind.i32.wrap b7), ib c1, ib 0] (by kernel_rfl) (by kernel_rfl) (by kernel_rfl) (by kernel_rfl) (by kernel_rfl) (by kernel_rfl) rfl rfl ?_)
   intro w hS
   refine EL.quick 1 [0, 4, 5, 6, 7, 8, 9, 40, 42] [(0, sv a2 a3 a1), (4, sv a6 a7 a5), (5, pt a0 0), (6, .func (.func 56) #[] #[pt a0 0]), (7, .func (.func 58) #[] #[pt a0 0]), (8, ic a8), (9, pt c9 0), (40, ib c2), (42, pt c9 6)] (by kernel_rfl) ?_
   refine EL.of (EO.storeBox (os' := Ass.box 112 a4 [sv i7 j0 g2, ia g3] :: Ass.box 61 a0 [pt a4 0] :: Ass.box 28 c9 [ia b0, ia b4, ia b5, ia b6, ib (IntKind.i32.wrap b7), ib c1, ib c2] :: Ass.own 28 kS28 a6 a7 a5 :: os) hS 2 rfl 21 6 (ib c2) [ia b0, ia b4, ia b5, ia b6, ib (IntKind.i32.wrap b7), ib c1, ib c2] (by kernel_rfl) (by kernel_rfl) (by kernel_rfl) (by kernel_rfl) (by kernel_rfl) (by kernel_rfl) rfl rfl ?_)
   intro w hS
   refine EL.done (by kernel_rfl) ?_
   refine EQ.code ?_
   refine EW.rg (by kernel_rfl) ?_
   refine EL.quick 1 [0, 5, 6, 7, 8, 9, 43] [(0, sv a2 a3 a1), (5, pt a0 0), (6, .func (.func 56) #[] #[pt a0 0]), (7, .func (.func 58) #[] #[pt a0 0]), (8, ic a8), (9, pt c9 0), (43, sv a6 a7 a5)] (by kernel_rfl) ?_
   refine EL.of (EO.Y (YO.loadBox hS 2 rfl 28 0 7 (ag [ia b0, ia b4, ia b5, ia b6, ib (IntKind.i32.wrap b7), ib c1, ib c2]) 44 (by kernel_rfl) (by kernel_rfl) (by kernel_rfl) (by kernel_rfl)) ?_)
   obtain ⟨f9, n8, H⟩ := lt_out H
   refine EL.of (EO.lit hS kS28 28 22 1 #[(0, ag [ia b0, ia b4, ia b5, ia b6, ib (IntKind.i32.wrap b7), ib c1, ib c2])] [ia b0, ia b4, ia b5, ia b6, ib (IntKind.i32.wrap b7), ib c1, ib c2] f9 45 (by kernel_rfl) (by kernel_rfl) (by kernel_rfl) (fun _ => (by kernel_rfl)) (by rw [n8]; rfl) (by kernel_rfl) (fun w G hr => (by rw [n8]; exact ⟨[ia b0, ia b4, ia b5, ia b6, ib (IntKind.i32.wrap b7), ib c1, ib c2], [], rfl, ⟨[ia b0], [ia b4, ia b5, ia b6, ib (IntKind.i32.wrap b7), ib c1, ib c2], rfl, rfl, ⟨[ia b4], [ia b5, ia b6, ib (IntKind.i32.wrap b7), ib c1, ib c2], rfl, rfl, ⟨[ia b5], [ia b6, ib (IntKind.i32.wrap b7), ib c1, ib c2], rfl, rfl, ⟨[ia b6], [ib (IntKind.i32.wrap b7), ib c1, ib c2], rfl, rfl, ⟨[ib (IntKind.i32.wrap b7)], [ib c1, ib c2], rfl, rfl, ⟨[ib c1], [ib c2], rfl, rfl, ⟨[ib c2], [], rfl, rfl, rfl⟩⟩⟩⟩⟩⟩⟩, rfl⟩)) ?_)
   intro n7 w hS
   obtain ⟨o1, H⟩ := ite_in H
   obtain ⟨e0, p8, H⟩ := lt_out H
   refine EL.of (EO.append hS 22 22 28 48 4 kS28 a6 a7 a5 rfl (some ⟨n7, 0, none⟩) 1 f9 (Rd.own 0 28 rfl) e0 p8 (fun f2 f6 => Ass.own 28 kS28 (some ⟨n7, 0, none⟩) 1 f9 :: Ass.box 112 a4 [sv i7 j0 g2, ia g3] :: Ass.box 61 a0 [pt a4 0] :: Ass.box 28 c9 [ia b0, ia b4, ia b5, ia b6, ib (IntKind.i32.wrap b7), ib c1, ib c2] :: Ass.own 28 kS28 f2 f6 e0 :: os) 46 (by kernel_rfl) (by kernel_rfl) (by kernel_rfl) (by kernel_rfl) o1 (fun _ _ => rfl) ?_)
   intro f2 f6 w hS
   refine EL.quick 1 [0, 4, 5, 6, 7, 8] [(0, sv a2 a3 a1), (4, sv f2 f6 e0), (5, pt a0 0), (6, .func (.func 56) #[] #[pt a0 0]), (7, .func (.func 58) #[] #[pt a0 0]), (8, ic a8)] (by kernel_rfl) ?_
   refine EL.done (by kernel_rfl) ?_
   refine EQ.pop ?_
   refine EQ.code ?_
   refine EW.rg (by kernel_rfl) ?_
   refine EL.quick 3 [0, 4, 5, 6, 7, 8] [(0, sv a2 a3 a1), (4, sv f2 f6 e0), (5, pt a0 0), (6, .func (.func 56) #[] #[pt a0 0]), (7, .func (.func 58) #[] #[pt a0 0]), (8, ic (IntKind.u64.wrap (a8 - 1)))] (by kernel_rfl) ?_
   refine EL.done (by kernel_rfl) ?_
   refine EQ.to ?_
   refine EQ.keep [0, 4, 5, 6, 7, 8] [(0, sv a2 a3 a1), (4, sv f2 f6 e0), (5, pt a0 0), (6, .func (.func 56) #[] #[pt a0 0]), (7, .func (.func 58) #[] #[pt a0 0]), (8, ic (IntKind.u64.wrap (a8 - 1)))] (by kernel_rfl) ?_
   exact fun a ha => ⟨n, Nat.lt_succ_self n, g2, g3, e0, IntKind.u64.wrap (a8 - 1), i7, j0, f2, f6, ha, (hS.re [4, 3, 3] [3, 3] rfl (sub_cons 0 rfl (sub_cons 9 rfl (sub_cons 10 rfl (sub_cons 11 rfl (sub_tail (sub_tail (sub_tail (sub_tail (sub_tail (sub_tail (sub_tail (sub_tail (sub_tail (sub_tail (sub_tail (sub_tail (sub_self)))))))))))))))))), H⟩
  rw [if_neg m3] at H
  refine EW.exit (id := 0) (by kernel_rfl) ?_
  refine EQ.exitCode ?_
  refine EQ.exitTo ?_
  refine EQ.exitHere ?_
  refine EQ.to ?_
  refine EQ.keep [0, 4, 5] [(0, sv a2 a3 a1), (4, sv a6 a7 a5), (5, pt a0 0)] (by kernel_rfl) ?_
  exact fun a ha => ⟨c6, e3, a5, d1, d2, a6, a7, ha, (hS.re [2, 2, 2] [] rfl (sub_cons 0 rfl (sub_cons 3 rfl (sub_cons 4 rfl (sub_tail (sub_tail (sub_tail (sub_tail (sub_tail (sub_self)))))))))), H⟩
 obtain ⟨d5, g6, a9, d8, d9, b8, b9, ha, hS, H⟩ := hI
 rw [p5] at H
 (try dsimp only at H)
 refine EW.at ?_ a ha
 clear ha a
 refine EW.sq (by kernel_rfl) ?_
 obtain ⟨j4, p7, H⟩ := lt_out H
 refine EW.ct (fun a w => ∃ i4 : List Int, ∃ j8 : Int, ∃ g8 : Bool, ∃ j9 : Option Addr, ∃ m1 : Nat, ∃ f3 : Option Addr, ∃ f7 : Nat, Sat 58 [(4, sv f3 f7 a9), (56, .bool (g8))] a ∧ St B w (Ass.box 112 a4 [sv j9 m1 i4, ia j8] :: Ass.box 61 a0 [pt a4 0] :: os) (Ro.sl (Kd.int .u8) j9 m1 i4 :: Ro.sl kS28 f3 f7 a9 :: Ro.sl (Kd.int .u8) a2 a3 a1 :: Ro.sl (Kd.int .u8) d8 d9 d5 :: Ro.sl (Kd.int .u8) c3 c4 c0 :: rs) ∧ j4 i4 j8 g8 = some (f0, g5)) (by kernel_rfl) ?_ (fun a w hI => ?_)
 ·refine EW.rg (by kernel_rfl) ?_
  refine EL.of (EO.Y (YO.loadBox hS 1 rfl 61 0 1 (pt a4 0) 47 (by kernel_rfl) (by kernel_rfl) (by kernel_rfl) (by kernel_rfl)) ?_)
  have hS : St B _ (Ass.box 112 a4 [sv d8 d9 d5, ia g6] :: Ass.box 61 a0 [pt a4 0] :: Ass.own 28 kS28 b8 b9 a9 :: os) (Ro.sl (Kd.int .u8) d8 d9 d5 :: Ro.sl (Kd.int .u8) c3 c4 c0 :: Ro.sl (Kd.int .u8) a2 a3 a1 :: rs) := hS.re [0] [] rfl (sub_cons 0 rfl (sub_tail (sub_self)))
  obtain ⟨d7, e9, g4, p2, H⟩ := b3_out H
  have hq := pack_Reader_Err.calls p2 hS
  refine EL.of (EO.callD 59 [pt a4 0] _ 48 (by kernel_rfl) (by kernel_rfl) (by kernel_rfl) hq ?_)
  rintro v w ⟨f4, f8, rfl, hS⟩
  refine EL.quick 2 [0, 4, 50] [(0, sv a2 a3 a1), (4, sv b8 b9 a9), (50, .bool (!(decide (g4 = 0))))] (by kernel_rfl) ?_
  by_cases j2 : g4 = 0
  ·rw [if_pos j2] at H
   refine EL.keep [0, 4, 50] [(0, sv a2 a3 a1), (4, sv b8 b9 a9), (50, .bool (!(decide (g4 = 0))))] (by kernel_rfl) ?_
   refine EL.as' [(0, sv a2 a3 a1), (4, sv b8 b9 a9), (50, .bool (false))] (by simp only [encS28, sv, dec_t j2, Bool.not_true, Bool.not_false]) ?_
   refine EL.quick 1 [0, 4, 50, 51] [(0, sv a2 a3 a1), (4, sv b8 b9 a9), (50, .bool (false)), (51, sv b8 b9 a9)] (by kernel_rfl) ?_
   have hS := St.fr hS 2 rfl
   have hS : St B _ (Ass.box 112 a4 [sv f4 f8 d7, ia e9] :: Ass.box 61 a0 [pt a4 0] :: os) (Ro.sl kS28 b8 b9 a9 :: Ro.sl (Kd.int .u8) f4 f8 d7 :: Ro.sl (Kd.int .u8) d8 d9 d5 :: Ro.sl (Kd.int .u8) c3 c4 c0 :: Ro.sl (Kd.int .u8) a2 a3 a1 :: rs) := hS.re [] [] rfl (sub_cons 0 rfl (sub_tail (sub_self)))
   obtain ⟨i2, p3, H⟩ := b1_out H
   have hq := trace_Put.calls p3 hS
   refine EL.of (EO.callD 15 [sv b8 b9 a9] _ 52 (by kernel_rfl) (by kernel_rfl) (by kernel_rfl) hq ?_)
   rintro v w ⟨m0, m2, rfl, hS⟩
   refine EL.quick 1 [4, 50, 52, 53] [(4, sv b8 b9 a9), (50, .bool (false)), (52, sv m0 m2 i2), (53, sv a2 a3 a1)] (by kernel_rfl) ?_
   have hS := St.fr hS 0 rfl
   have hS : St B _ (Ass.box 112 a4 [sv f4 f8 d7, ia e9] :: Ass.box 61 a0 [pt a4 0] :: os) (Ro.sl (Kd.int .u8) m0 m2 i2 :: Ro.sl (Kd.int .u8) a2 a3 a1 :: Ro.sl kS28 b8 b9 a9 :: Ro.sl (Kd.int .u8) f4 f8 d7 :: Ro.sl (Kd.int .u8) d8 d9 d5 :: Ro.sl (Kd.int .u8) c3 c4 c0 :: rs) := hS.re [] [] rfl (sub_cons 0 rfl (sub_cons 5 rfl (sub_cons 1 rfl (sub_cons 2 rfl (sub_cons 3 rfl (sub_cons 4 rfl (sub_tail (sub_tail (sub_tail (sub_tail (sub_tail (sub_tail (sub_self)))))))))))))
   obtain ⟨i3, p4, H⟩ := b1_out H
   have hq := bytes_Equal.calls p4 hS
   refine EL.of (EO.callD 60 [sv m0 m2 i2, sv a2 a3 a1] _ 54 (by kernel_rfl) (by kernel_rfl) (by kernel_rfl) hq ?_)
   rintro v w ⟨rfl, hS⟩
   refine EL.quick 2 [4, 56] [(4, sv b8 b9 a9), (56, .bool (!(i3)))] (by kernel_rfl) ?_
   refine EL.done (by kernel_rfl) ?_
   refine EQ.to ?_
   refine EQ.keep [4, 56] [(4, sv b8 b9 a9), (56, .bool (!(i3)))] (by kernel_rfl) ?_
   exact fun a ha => ⟨d7, e9, !(i3), f4, f8, b8, b9, ha, (hS.re [1, 1] [] rfl (sub_cons 3 rfl (sub_cons 2 rfl (sub_cons 1 rfl (sub_cons 4 rfl (sub_cons 5 rfl (sub_tail (sub_tail (sub_tail (sub_tail (sub_tail (sub_tail (sub_self))))))))))))), H⟩
  rw [if_neg j2] at H
  refine EL.keep [0, 4, 50] [(0, sv a2 a3 a1), (4, sv b8 b9 a9), (50, .bool (!(decide (g4 = 0))))] (by kernel_rfl) ?_
  refine EL.as' [(0, sv a2 a3 a1), (4, sv b8 b9 a9), (50, .bool (true))] (by simp only [encS28, sv, dec_f j2, Bool.not_true, Bool.not_false]) ?_
  refine EL.quick 6 [4, 56] [(4, sv b8 b9 a9), (56, .bool (true))] (by kernel_rfl) ?_
  refine EL.done (by kernel_rfl) ?_
  refine EQ.to ?_
  have hS := St.fr hS 2 rfl
  refine EQ.keep [4, 56] [(4, sv b8 b9 a9), (56, .bool (true))] (by kernel_rfl) ?_
  exact fun a ha => ⟨d7, e9, true, f4, f8, b8, b9, ha, (hS.re [1, 1] [] rfl (sub_cons 1 rfl (sub_cons 0 rfl (sub_cons 4 rfl (sub_cons 2 rfl (sub_cons 3 rfl (sub_tail (sub_tail (sub_tail (sub_tail (sub_tail (sub_self)))))))))))), H⟩
 obtain ⟨i4, j8, g8, j9, m1, f3, f7, ha, hS, H⟩ := hI
 rw [p7] at H
 (try dsimp only at H)
 refine EW.at ?_ a ha
 clear ha a
 refine EW.cdP' (g8) (by kernel_rfl) (by kernel_rfl) (fun m4 => ?_) (fun m4 => ?_)
 ·rw [if_pos m4] at H
  refine EW.sq (by kernel_rfl) ?_
  refine EW.rg (by kernel_rfl) ?_
  refine EL.quick 2 [2, 3] [(2, sv none 0 ([] : List S28)), (3, ia 20)] (by kernel_rfl) ?_
  refine EL.done (by kernel_rfl) ?_
  refine EQ.code ?_
  refine EW.ret (by kernel_rfl) ?_
  refine EQ.ret ?_
  have hS := St.nilR hS kS28
  simp only [encS28, sv, Option.some.injEq, Prod.mk.injEq] at H
  obtain ⟨rfl, rfl⟩ := H
  exact EQ.leave (.tuple #[sv none 0 ([] : List S28), ia 20]) (by kernel_rfl) ⟨_, rfl, none, 0, rfl, (hS.re [] [0, 0] rfl (sub_cons 0 rfl (sub_cons 3 rfl (sub_tail (sub_tail (sub_tail (sub_tail (sub_tail (sub_tail (sub_self))))))))))⟩
 rw [if_neg m4] at H
 refine EW.skip (by kernel_rfl) ?_
 refine EQ.code ?_
 refine EW.sq (by kernel_rfl) ?_
 refine EW.rg (by kernel_rfl) ?_
 refine EL.quick 3 [2, 3] [(2, sv f3 f7 a9), (3, ia 0)] (by kernel_rfl) ?_
 refine EL.done (by kernel_rfl) ?_
 refine EQ.code ?_
 refine EW.ret (by kernel_rfl) ?_
 simp only [encS28, sv, Option.some.injEq, Prod.mk.injEq] at H
 obtain ⟨rfl, rfl⟩ := H
 exact EQ.leave (.tuple #[sv f3 f7 a9, ia 0]) (by kernel_rfl) ⟨_, rfl, f3, f7, rfl, (hS.re [] [0, 0] rfl (sub_cons 1 rfl (sub_cons 2 rfl (sub_tail (sub_tail (sub_tail (sub_tail (sub_tail (sub_self)))))))))⟩

/-! ### (*confidant/trace.Trace).All: function 18 -/
def trace_Trace_All_18.f (K : Nat) (a0 : List S28) : Option (List S28 × List S28) := b1 (api_Event.f K a0) fun (a4 : List S28) => (some (a0, a4))
set_option maxRecDepth 100000 in
theorem trace_Trace_All_18.calls {K : Nat} {a0 : List S28} {a3 : Nat} {a1 : Option Addr} {a2 : Nat} {a7 : List S28} {a8 : List S28} {B w : World} {os : List Ass} {rs : List Ro} (H : trace_Trace_All_18.f K a0 = some (a7, a8)) (hS : St B w (Ass.box 75 a3 [sv a1 a2 a0] :: os) (Ro.sl kS28 a1 a2 a0 :: rs)) :
  Calls Tryd.prog 18 [pt a3 0].toArray w (fun en w' => ∃ v, en = .returned v ∧ ∃ a9 : Option Addr, ∃ b2 : Nat, ∃ b0 : Option Addr, ∃ b3 : Nat, v = sv b0 b3 a8 ∧ St B w' (Ass.box 75 a3 [sv a9 b2 a7] :: Ass.own 28 kS28 b0 b3 a8 :: os) (Ro.sl kS28 a9 b2 a7 :: Ro.sl kS28 a1 a2 a0 :: rs)) := by
 unfold trace_Trace_All_18.f at H
 refine calls_of_EW (args := [pt a3 0]) (c := Cd18) 8 Tryd.func18 (by kernel_rfl) (by kernel_rfl) (by kernel_rfl) ?_
 refine EW.sq (by kernel_rfl) ?_
 refine EW.rg (by kernel_rfl) ?_
 refine EL.quick 1 [0] [(0, pt a3 0)] (by kernel_rfl) ?_
 refine EL.done (by kernel_rfl) ?_
 refine EQ.code ?_
 refine EW.sq (by kernel_rfl) ?_
 refine EW.rg (by kernel_rfl) ?_
 refine EL.quick 3 [5] [(5, pt a3 0)] (by kernel_rfl) ?_
 refine EL.of (EO.Y (YO.loadBox hS 0 rfl 22 0 1 (sv a1 a2 a0) 6 (by kernel_rfl) (by kernel_rfl) (by kernel_rfl) (by kernel_rfl)) ?_)
 have hS : St B _ (Ass.box 75 a3 [sv a1 a2 a0] :: os) (Ro.sl kS28 a1 a2 a0 :: rs) := hS.re [] [] rfl (sub_cons 0 rfl (sub_tail (sub_self)))
 obtain ⟨a4, b4, H⟩ := b1_out H
 have hq := api_Event.calls b4 hS
 refine EL.of (EO.callD 46 [sv a1 a2 a0] _ 7 (by kernel_rfl) (by kernel_rfl) (by kernel_rfl) hq ?_)
 rintro v w ⟨a5, a6, rfl, hS⟩
 refine EL.quick 1 [2] [(2, sv a5 a6 a4)] (by kernel_rfl) ?_
 refine EL.done (by kernel_rfl) ?_
 refine EQ.code ?_
 refine EW.ret (by kernel_rfl) ?_
 simp only [sv, Option.some.injEq, Prod.mk.injEq] at H
 obtain ⟨rfl, rfl⟩ := H
 exact EQ.leave (sv a5 a6 a4) (by kernel_rfl) ⟨_, rfl, a1, a2, a5, a6, rfl, (hS.re [0, 1] [] rfl (sub_cons 0 rfl (sub_self)))⟩

/-! ### confidant/trace.names: function 53 -/
def trace_names.l0 (K : Nat) (a0 : List ByteArray) : Nat → (List (Int × ByteArray)) → Int → Option (List (Int × ByteArray))
 | 0, _, _ => none
 | n + 1, a7, a1 => if a1 < (a0.length : Int) then (if 0 ≤ a1 then (lt (sput a7 (IntKind.i64.wrap (1 + a1)) (a0.getD a1.toNat ⟨#[]⟩)) fun a9 => (trace_names.l0 K a0 n a9 (IntKind.i64.wrap (a1 + 1)))) else none) else (some a7)
def trace_names.f (K : Nat)  : Option (List (Int × ByteArray)) := if fieldsOk (⟨#[116, 97, 107, 101, 32, 115, 116, 101, 97, 108, 32, 109, 105, 115, 115, 32, 112, 97, 114, 107, 32, 119, 97, 107, 101, 32, 108, 101, 97, 118, 101, 32, 101, 110, 116, 101, 114, 32, 102, 111, 114, 107, 32, 101, 109, 105, 116, 32, 100, 111, 110, 101, 32, 102, 97, 105, 108]⟩ : ByteArray) = true then (lt (fieldsL (⟨#[116, 97, 107, 101, 32, 115, 116, 101, 97, 108, 32, 109, 105, 115, 115, 32, 112, 97, 114, 107, 32, 119, 97, 107, 101, 32, 108, 101, 97, 118, 101, 32, 101, 110, 116, 101, 114, 32, 102, 111, 114, 107, 32, 101, 109, 105, 116, 32, 100, 111, 110, 101, 32, 102, 97, 105, 108]⟩ : ByteArray)) fun a0 => (trace_names.l0 K a0 K ([] : List (Int × ByteArray)) 0)) else none
set_option maxRecDepth 100000 in
theorem trace_names.calls {K : Nat} {b2 : List (Int × ByteArray)} {B w : World} {os : List Ass} {rs : List Ro} (H : trace_names.f K = some b2) (hS : St B w (os) (rs)) (gB : Glob B) :
  Calls Tryd.prog 53 [].toArray w (fun en w' => ∃ v, en = .returned v ∧ ∃ b3 : Option Addr, ∃ b7 : Nat, v = .map (mref b3) ∧ St B w' (Ass.mps .i64 b3 b2 :: os) (rs)) := by
 unfold trace_names.f at H
 refine calls_of_EW (args := []) (c := Cd53) 18 Tryd.func53 (by kernel_rfl) (by kernel_rfl) (by kernel_rfl) ?_
 refine EW.sq (by kernel_rfl) ?_
 refine EW.rg (by kernel_rfl) ?_
 refine EL.quick 1 [] [] (by kernel_rfl) ?_
 refine EL.done (by kernel_rfl) ?_
 refine EQ.code ?_
 refine EW.sq (by kernel_rfl) ?_
 refine EW.rg (by kernel_rfl) ?_
 refine EL.of (EO.makeMapS hS 86 .i64 4 (by kernel_rfl) (by kernel_rfl) (by kernel_rfl) ?_)
 intro a8 w hS
 refine EL.quick 1 [1] [(1, .map (mref a8))] (by kernel_rfl) ?_
 refine EL.done (by kernel_rfl) ?_
 refine EQ.code ?_
 refine EW.sq (by kernel_rfl) ?_
 refine EW.sq (by kernel_rfl) ?_
 refine EW.rg (by kernel_rfl) ?_
 obtain ⟨b4, H⟩ := ite_in H
 obtain ⟨a0, b5, H⟩ := lt_out H
 have hq := Door.strings_Fields hS gB b4 b5
 refine EL.of (EO.callD 78 [.string (⟨#[116, 97, 107, 101, 32, 115, 116, 101, 97, 108, 32, 109, 105, 115, 115, 32, 112, 97, 114, 107, 32, 119, 97, 107, 101, 32, 108, 101, 97, 118, 101, 32, 101, 110, 116, 101, 114, 32, 102, 111, 114, 107, 32, 101, 109, 105, 116, 32, 100, 111, 110, 101, 32, 102, 97, 105, 108]⟩ : ByteArray)] _ 5 (by kernel_rfl) (by kernel_rfl) (by kernel_rfl) hq ?_)
 rintro v w ⟨a5, a3, rfl, hS⟩
 refine EL.quick 2 [1, 5, 6, 7] [(1, .map (mref a8)), (5, sv a5 a3 a0), (6, ia (a0.length : Int)), (7, ia 0)] (by kernel_rfl) ?_
 refine EL.done (by kernel_rfl) ?_
 refine EQ.code ?_
 refine EW.bl 0 (by kernel_rfl) ?_
 refine EW.lp (fun n a w => ∃ a7 : List (Int × ByteArray), ∃ a1 : Int, ∃ a2 : Option Addr, ∃ b0 : Nat, Sat 18 [(1, .map (mref a2)), (5, sv a5 a3 a0), (6, ia (a0.length : Int)), (7, ia a1)] a ∧ St B w (Ass.own 9 Kd.str a5 a3 a0 :: Ass.mps .i64 a2 a7 :: os) (rs) ∧ trace_names.l0 K a0 n a7 a1 = some b2) K (by kernel_rfl) ?_ (fun n a w hI => ?_)
 ·refine EQ.keep [1, 5, 6, 7] [(1, .map (mref a8)), (5, sv a5 a3 a0), (6, ia (a0.length : Int)), (7, ia 0)] (by kernel_rfl) ?_
  exact fun a ha => ⟨([] : List (Int × ByteArray)), 0, a8, 0, ha, (hS.re [1, 1] [] rfl (sub_self)), H⟩
 obtain ⟨a7, a1, a2, b0, ha, hS, H⟩ := hI
 obtain _ | n := n
 ·simp [trace_names.l0] at H
 rw [trace_names.l0.eq_2] at H
 refine EW.at ?_ a ha
 clear ha a
 refine EW.sq (by kernel_rfl) ?_
 refine EW.rg (by kernel_rfl) ?_
 refine EL.quick 1 [1, 5, 6, 7, 8] [(1, .map (mref a2)), (5, sv a5 a3 a0), (6, ia (a0.length : Int)), (7, ia a1), (8, .bool (decide (a1 < (a0.length : Int))))] (by kernel_rfl) ?_
 refine EL.done (by kernel_rfl) ?_
 refine EQ.code ?_
 refine EW.sq (by kernel_rfl) ?_
 refine EW.cdP (a1 < (a0.length : Int)) (by kernel_rfl) (by kernel_rfl) (fun a6 => ?_) (fun a6 => ?_)
 ·rw [if_pos a6] at H
  refine EW.skip (by kernel_rfl) ?_
  refine EQ.code ?_
  refine EW.sq (by kernel_rfl) ?_
  refine EW.bl 1 (by kernel_rfl) ?_
  refine EW.sq (by kernel_rfl) ?_
  refine EW.rg (by kernel_rfl) ?_
  refine EL.quick 1 [1, 5, 6, 7, 9] [(1, .map (mref a2)), (5, sv a5 a3 a0), (6, ia (a0.length : Int)), (7, ia a1), (9, ia a1)] (by kernel_rfl) ?_
  obtain ⟨b1, H⟩ := ite_in H
  obtain ⟨a4, rfl⟩ := St.rd_some hS (Rd.own 0 9 rfl) b1 a6
  refine EL.of (EO.Y (YO.idx 68 1 a4 a0.length a3 .i64 a1 10 (by kernel_rfl) (by kernel_rfl) (by kernel_rfl) (by kernel_rfl) b1 a6) ?_)
  refine EL.of (EO.Y (YO.loadEl hS Kd.str a4 a3 a0 (Rd.own 0 9 rfl) ⟨#[]⟩ encS encS_of a1 b1 a6 9 1 0 1 rfl (.string (a0.getD a1.toNat ⟨#[]⟩)) 11 (by kernel_rfl) (by kernel_rfl) (by kernel_rfl) (by kernel_rfl)) ?_)
  refine EL.quick 2 [1, 2, 3, 5, 6, 7] [(1, .map (mref a2)), (2, ia a1), (3, .string (a0.getD a1.toNat ⟨#[]⟩)), (5, sv (some a4) a3 a0), (6, ia (a0.length : Int)), (7, ia a1)] (by kernel_rfl) ?_
  refine EL.done (by kernel_rfl) ?_
  refine EQ.code ?_
  refine EW.rg (by kernel_rfl) ?_
  refine EL.quick 4 [1, 5, 6, 7, 12, 14, 15] [(1, .map (mref a2)), (5, sv (some a4) a3 a0), (6, ia (a0.length : Int)), (7, ia a1), (12, .map (mref a2)), (14, ia (IntKind.i64.wrap (1 + a1))), (15, .string (a0.getD a1.toNat ⟨#[]⟩))] (by kernel_rfl) ?_
  obtain ⟨a9, b6, H⟩ := lt_out H
  refine EL.of (EO.mapPutS hS 1 rfl .i64 86 3 9 (IntKind.i64.wrap (1 + a1)) (a0.getD a1.toNat ⟨#[]⟩) (Ass.own 9 Kd.str (some a4) a3 a0 :: Ass.mps .i64 a2 a9 :: os) (by kernel_rfl) (by kernel_rfl) (by kernel_rfl) (by kernel_rfl) (by kernel_rfl) b6 rfl ?_)
  intro w hS
  refine EL.done (by kernel_rfl) ?_
  refine EQ.pop ?_
  refine EQ.code ?_
  refine EW.rg (by kernel_rfl) ?_
  refine EL.quick 2 [1, 5, 6, 7] [(1, .map (mref a2)), (5, sv (some a4) a3 a0), (6, ia (a0.length : Int)), (7, ia (IntKind.i64.wrap (a1 + 1)))] (by kernel_rfl) ?_
  refine EL.done (by kernel_rfl) ?_
  refine EQ.to ?_
  refine EQ.keep [1, 5, 6, 7] [(1, .map (mref a2)), (5, sv (some a4) a3 a0), (6, ia (a0.length : Int)), (7, ia (IntKind.i64.wrap (a1 + 1)))] (by kernel_rfl) ?_
  exact fun a ha => ⟨n, Nat.lt_succ_self n, a9, IntKind.i64.wrap (a1 + 1), a2, b0, ha, (hS.re [1, 1] [] rfl (sub_self)), H⟩
 rw [if_neg a6] at H
 refine EW.exit (id := 0) (by kernel_rfl) ?_
 refine EQ.exitCode ?_
 refine EQ.exitTo ?_
 refine EQ.exitHere ?_
 refine EQ.code ?_
 refine EW.sq (by kernel_rfl) ?_
 refine EW.rg (by kernel_rfl) ?_
 refine EL.quick 2 [0] [(0, .map (mref a2))] (by kernel_rfl) ?_
 refine EL.done (by kernel_rfl) ?_
 refine EQ.code ?_
 refine EW.ret (by kernel_rfl) ?_
 obtain rfl := Option.some.inj H
 exact EQ.leave (.map (mref a2)) (by kernel_rfl) ⟨_, rfl, a2, b0, rfl, (hS.re [1] [1] rfl (sub_self))⟩

/-! ### confidant/trace.Text: function 25 -/
def trace_Text.l0 (K : Nat) (a1 : List Int) (b4 : (List Int) → (List ByteArray) → Option ByteArray) : Nat → (List ByteArray) → Int → Option ByteArray
 | 0, _, _ => none
 | n + 1, a5, a2 => if a2 < (a1.length : Int) then (if 0 ≤ a2 then (if i64ok (IntKind.i64.wrap (a1.getD a2.toNat 0)) = true then (lt (itoaL (IntKind.i64.wrap (a1.getD a2.toNat 0))) fun c3 => (lt ([c3] : List ByteArray) fun b8 => (if (a5.length + b8.length) * 16 ≤ 140737488355328 then (lt (a5 ++ b8) fun b3 => (trace_Text.l0 K a1 b4 n b3 (IntKind.i64.wrap (a2 + 1)))) else none))) else none) else none) else (b4 a1 a5)
def trace_Text.f (K : Nat) (a0 : S28) : Option ByteArray := b1 (trace_Right.f K a0) fun (c4 : Bool) => (if c4 = true then (if i64ok a0.f0 = true then (lt (itoaL a0.f0) fun c2 => (if i64ok a0.f1 = true then (lt (itoaL a0.f1) fun b7 => (b1 (trace_names.f K) fun (a7 : List (Int × ByteArray)) => (lt ([c2, b7, (sget a7 a0.f2)] : List ByteArray) fun a6 => (lt (fun (c7 : List Int) (b0 : List ByteArray) => (if joinOk b0 (⟨#[32]⟩ : ByteArray) = true then (lt (joinL b0 (⟨#[32]⟩ : ByteArray)) fun c5 => (some c5)) else none)) fun b4 => (lt ([IntKind.i32.wrap a0.f3, a0.f4, a0.f5, a0.f6] : List Int) fun a1 => (trace_Text.l0 K a1 b4 K a6 0)))))) else none)) else none) else (some (⟨#[]⟩ : ByteArray)))
set_option maxRecDepth 100000 in
theorem trace_Text.calls {K : Nat} {a0 : S28} {c6 : ByteArray} {B w : World} {os : List Ass} {rs : List Ro} (H : trace_Text.f K a0 = some c6) (hS : St B w (os) (rs)) (gB : Glob B) :
  Calls Tryd.prog 25 [ag (encS28 a0)].toArray w (fun en w' => ∃ v, en = .returned v ∧ v = .string c6 ∧ St B w' (os) (rs)) := by
 unfold trace_Text.f at H
 refine calls_of_EW (args := [ag (encS28 a0)]) (c := Cd25) 44 Tryd.func25 (by kernel_rfl) (by kernel_rfl) (by kernel_rfl) ?_
 refine EW.sq (by kernel_rfl) ?_
 refine EW.rg (by kernel_rfl) ?_
 refine EL.of (EO.box hS 28 (ag (encS28 a0)) (encS28 a0) 1 (by kernel_rfl) (by kernel_rfl) (by kernel_rfl) (by first | rfl | kernel_rfl) ?_)
 intro a3 w hS
 refine EL.quick 1 [1] [(1, pt a3 0)] (by kernel_rfl) ?_
 refine EL.done (by kernel_rfl) ?_
 refine EQ.code ?_
 refine EW.sq (by kernel_rfl) ?_
 refine EW.sq (by kernel_rfl) ?_
 refine EW.rg (by kernel_rfl) ?_
 refine EL.of (EO.Y (YO.loadBox hS 0 rfl 28 0 7 (ag (encS28 a0)) 6 (by kernel_rfl) (by kernel_rfl) (by kernel_rfl) (by kernel_rfl)) ?_)
 obtain ⟨c4, e2, H⟩ := b1_out H
 have hq := trace_Right.calls e2 hS
 refine EL.of (EO.callD 23 [ag (encS28 a0)] _ 7 (by kernel_rfl) (by kernel_rfl) (by kernel_rfl) hq ?_)
 rintro v w ⟨rfl, hS⟩
 refine EL.quick 1 [1, 8] [(1, pt a3 0), (8, .bool (!(c4)))] (by kernel_rfl) ?_
 refine EL.done (by kernel_rfl) ?_
 refine EQ.code ?_
 refine EW.cdQ (b := !(c4)) (c4 = true) (false) (by kernel_rfl) (by kernel_rfl) ⟨fun h => (by rw [h] <;> rfl), fun h => (by rw [Bool.eq_false_iff.2 h] <;> rfl)⟩ (fun c9 => ?_) (fun c9 => ?_)
 ·rw [if_pos c9] at H
  refine EW.skip (by kernel_rfl) ?_
  refine EQ.code ?_
  refine EW.sq (by kernel_rfl) ?_
  obtain ⟨d7, H⟩ := ite_in H
  obtain ⟨c2, e5, H⟩ := lt_out H
  obtain ⟨d8, H⟩ := ite_in H
  obtain ⟨b7, e6, H⟩ := lt_out H
  obtain ⟨a7, e3, H⟩ := b1_out H
  obtain ⟨a6, d4, H⟩ := lt_out H
  have hS := hS.drew
  refine EW.dr (B := B) [Ass.box 28 a3 (encS28 a0)] [] (by kernel_rfl) (by kernel_rfl) ?_
  have hN : Region.noSelect Cd25.r.r.l.ops = true := (by kernel_rfl)
  have hF : freeAll Cd25.r.r.l.ops = true := (by kernel_rfl)
  have hC : Core B [Ass.box 28 a3 (encS28 a0)] [] _ := ⟨_, _, hS⟩
  refine ED.quick hN hF hC [0, 3, 7] [1, 9, 12, 16] 9 [(1, pt a3 0), (9, pt a3 0), (12, pt a3 1), (16, pt a3 2)] (bm 12 137) (by kernel_rfl) (by kernel_rfl) ?_
  refine ED.Y hN hF hC 1 8 (bm 12 139) (by kernel_rfl) (by kernel_rfl) rfl (fun _ _ _ hS => YO.loadBox hS 0 rfl 3 0 1 (ia a0.f0) 10 (by kernel_rfl) (by kernel_rfl) (by kernel_rfl) (by kernel_rfl)) ?_
  refine ED.Y hN hF hC 4 7 (bm 12 155) (by kernel_rfl) (by kernel_rfl) rfl (fun _ _ _ hS => YO.loadBox hS 0 rfl 3 1 1 (ia a0.f1) 13 (by kernel_rfl) (by kernel_rfl) (by kernel_rfl) (by kernel_rfl)) ?_
  refine ED.Y hN hF hC 8 6 (bm 12 411) (by kernel_rfl) (by kernel_rfl) rfl (fun _ _ _ hS => YO.loadBox hS 0 rfl 3 2 1 (ia a0.f2) 17 (by kernel_rfl) (by kernel_rfl) (by kernel_rfl) (by kernel_rfl)) ?_
  have hq := Door.strconv_Itoa hS gB d7 e5
  refine ED.one 2 5 (bm 12 415) (by kernel_rfl) (by kernel_rfl) (by kernel_rfl) (EO.callD 52 [.int .i64 a0.f0] _ 11 (by kernel_rfl) (by kernel_rfl) (by kernel_rfl) hq ?_)
  rintro v w ⟨rfl, hS⟩
  have hC := hC.again ⟨_, _, hS⟩
  refine ⟨hC, ?_⟩
  have hq := Door.strconv_Itoa hS gB d8 e6
  refine ED.one 5 4 (bm 12 447) (by kernel_rfl) (by kernel_rfl) (by kernel_rfl) (EO.callD 52 [.int .i64 a0.f1] _ 14 (by kernel_rfl) (by kernel_rfl) (by kernel_rfl) hq ?_)
  rintro v w ⟨rfl, hS⟩
  have hC := hC.again ⟨_, _, hS⟩
  refine ⟨hC, ?_⟩
  have hq := trace_names.calls e3 hS gB
  refine ED.one 6 3 (bm 12 511) (by kernel_rfl) (by kernel_rfl) (by kernel_rfl) (EO.callD 53 [] _ 15 (by kernel_rfl) (by kernel_rfl) (by kernel_rfl) hq ?_)
  rintro v w ⟨c8, f7, rfl, hS⟩
  have hC := hC.again ⟨_, _, hS.re [1] [] rfl sub_self⟩
  refine ⟨hC, ?_⟩
  refine ED.one 9 2 (bm 12 1023) (by kernel_rfl) (by kernel_rfl) (by kernel_rfl) (EO.Y (YO.mapGetS hS 0 rfl .i64 86 3 9 a0.f2 18 (by kernel_rfl) (by kernel_rfl) (by kernel_rfl) (by kernel_rfl) (by kernel_rfl) (by kernel_rfl)) ?_)
  have hC := hC.again ⟨_, _, hS.re [1] [] rfl sub_self⟩
  refine ⟨hC, ?_⟩
  refine ED.one 10 1 (bm 12 2047) (by kernel_rfl) (by kernel_rfl) (by kernel_rfl) (EO.lit hS Kd.str 9 68 3 #[(0, .string c2), (1, .string b7), (2, .string (sget a7 a0.f2))] [.string c2, .string b7, .string (sget a7 a0.f2)] a6 19 (by kernel_rfl) (by kernel_rfl) (by kernel_rfl) (fun _ => (by kernel_rfl)) (by rw [d4]; rfl) (by kernel_rfl) (fun w G hr => (by rw [d4]; exact ⟨[.string c2], [.string b7, .string (sget a7 a0.f2)], rfl, rfl, ⟨[.string b7], [.string (sget a7 a0.f2)], rfl, rfl, ⟨[.string (sget a7 a0.f2)], [], rfl, rfl, rfl⟩⟩⟩)) ?_)
  intro b2 w hS
  have hC := hC.again ⟨_, _, hS.re [2] [] rfl sub_self⟩
  refine ⟨hC, ?_⟩
  refine ED.quick hN hF hC [11] [1, 3] 0 [(1, pt a3 0), (3, sv (some ⟨b2, 0, none⟩) 3 a6)] (bm 12 4095) (by kernel_rfl) (by kernel_rfl) ?_
  refine ED.done (by kernel_rfl) ?_
  refine EQ.code ?_
  obtain ⟨b4, e4, H⟩ := lt_out H
  refine EW.ct (fun a w => ∃ c7 : List Int, ∃ b0 : List ByteArray, ∃ d0 : Option Addr, ∃ d1 : Nat, ∃ b9 : Option Addr, ∃ c0 : Nat, Sat 44 [(3, sv b9 c0 b0)] a ∧ St B w (Ass.own 21 (Kd.int .i32) d0 d1 c7 :: Ass.own 9 Kd.str b9 c0 b0 :: Ass.mps .i64 c8 a7 :: Ass.box 28 a3 (encS28 a0) :: os) (rs) ∧ b4 c7 b0 = some c6) (by kernel_rfl) ?_ (fun a w hI => ?_)
  ·refine EW.sq (by kernel_rfl) ?_
   refine EW.rg (by kernel_rfl) ?_
   refine EL.quick 1 [1, 3, 20] [(1, pt a3 0), (3, sv (some ⟨b2, 0, none⟩) 3 a6), (20, pt a3 3)] (by kernel_rfl) ?_
   refine EL.of (EO.Y (YO.loadBox hS 2 rfl 3 3 1 (ia a0.f3) 21 (by kernel_rfl) (by kernel_rfl) (by kernel_rfl) (by kernel_rfl)) ?_)
   refine EL.quick 2 [1, 3, 22, 23] [(1, pt a3 0), (3, sv (some ⟨b2, 0, none⟩) 3 a6), (22, ib (IntKind.i32.wrap a0.f3)), (23, pt a3 4)] (by kernel_rfl) ?_
   refine EL.of (EO.Y (YO.loadBox hS 2 rfl 21 4 1 (ib a0.f4) 24 (by kernel_rfl) (by kernel_rfl) (by kernel_rfl) (by kernel_rfl)) ?_)
   refine EL.quick 1 [1, 3, 22, 24, 25] [(1, pt a3 0), (3, sv (some ⟨b2, 0, none⟩) 3 a6), (22, ib (IntKind.i32.wrap a0.f3)), (24, ib a0.f4), (25, pt a3 5)] (by kernel_rfl) ?_
   refine EL.of (EO.Y (YO.loadBox hS 2 rfl 21 5 1 (ib a0.f5) 26 (by kernel_rfl) (by kernel_rfl) (by kernel_rfl) (by kernel_rfl)) ?_)
   refine EL.quick 1 [3, 22, 24, 26, 27] [(3, sv (some ⟨b2, 0, none⟩) 3 a6), (22, ib (IntKind.i32.wrap a0.f3)), (24, ib a0.f4), (26, ib a0.f5), (27, pt a3 6)] (by kernel_rfl) ?_
   refine EL.of (EO.Y (YO.loadBox hS 2 rfl 21 6 1 (ib a0.f6) 28 (by kernel_rfl) (by kernel_rfl) (by kernel_rfl) (by kernel_rfl)) ?_)
   obtain ⟨a1, d5, H⟩ := lt_out H
   refine EL.of (EO.lit hS (Kd.int .i32) 21 88 4 #[(0, ib (IntKind.i32.wrap a0.f3)), (1, ib a0.f4), (2, ib a0.f5), (3, ib a0.f6)] [ib (IntKind.i32.wrap a0.f3), ib a0.f4, ib a0.f5, ib a0.f6] a1 29 (by kernel_rfl) (by kernel_rfl) (by kernel_rfl) (fun _ => (by kernel_rfl)) (by rw [d5]; rfl) (by kernel_rfl) (fun w G hr => (by rw [d5]; exact ⟨[ib (IntKind.i32.wrap a0.f3)], [ib a0.f4, ib a0.f5, ib a0.f6], rfl, rfl, ⟨[ib a0.f4], [ib a0.f5, ib a0.f6], rfl, rfl, ⟨[ib a0.f5], [ib a0.f6], rfl, rfl, ⟨[ib a0.f6], [], rfl, rfl, rfl⟩⟩⟩⟩)) ?_)
   intro a4 w hS
   refine EL.quick 2 [3, 29, 30, 31] [(3, sv (some ⟨b2, 0, none⟩) 3 a6), (29, sv (some ⟨a4, 0, none⟩) 4 a1), (30, ia (a1.length : Int)), (31, ia 0)] (by kernel_rfl) ?_
   refine EL.done (by kernel_rfl) ?_
   refine EQ.code ?_
   refine EW.bl 0 (by kernel_rfl) ?_
   refine EW.lp (fun n a w => ∃ a5 : List ByteArray, ∃ a2 : Int, ∃ a8 : Option Addr, ∃ a9 : Nat, Sat 44 [(3, sv a8 a9 a5), (29, sv (some ⟨a4, 0, none⟩) 4 a1), (30, ia (a1.length : Int)), (31, ia a2)] a ∧ St B w (Ass.own 21 (Kd.int .i32) (some ⟨a4, 0, none⟩) 4 a1 :: Ass.own 9 Kd.str a8 a9 a5 :: Ass.mps .i64 c8 a7 :: Ass.box 28 a3 (encS28 a0) :: os) (rs) ∧ trace_Text.l0 K a1 b4 n a5 a2 = some c6) K (by kernel_rfl) ?_ (fun n a w hI => ?_)
   ·refine EQ.keep [3, 29, 30, 31] [(3, sv (some ⟨b2, 0, none⟩) 3 a6), (29, sv (some ⟨a4, 0, none⟩) 4 a1), (30, ia (a1.length : Int)), (31, ia 0)] (by kernel_rfl) ?_
    exact fun a ha => ⟨a6, 0, (some ⟨b2, 0, none⟩), 3, ha, (hS.re [3, 3, 3, 3] [] rfl (sub_self)), H⟩
   obtain ⟨a5, a2, a8, a9, ha, hS, H⟩ := hI
   obtain _ | n := n
   ·simp [trace_Text.l0] at H
   rw [trace_Text.l0.eq_2] at H
   refine EW.at ?_ a ha
   clear ha a
   refine EW.sq (by kernel_rfl) ?_
   refine EW.rg (by kernel_rfl) ?_
   refine EL.quick 1 [3, 29, 30, 31, 32] [(3, sv a8 a9 a5), (29, sv (some ⟨a4, 0, none⟩) 4 a1), (30, ia (a1.length : Int)), (31, ia a2), (32, .bool (decide (a2 < (a1.length : Int))))] (by kernel_rfl) ?_
   refine EL.done (by kernel_rfl) ?_
   refine EQ.code ?_
   refine EW.sq (by kernel_rfl) ?_
   refine EW.cdP (a2 < (a1.length : Int)) (by kernel_rfl) (by kernel_rfl) (fun c1 => ?_) (fun c1 => ?_)
   ·rw [if_pos c1] at H
    refine EW.skip (by kernel_rfl) ?_
    refine EQ.code ?_
    refine EW.sq (by kernel_rfl) ?_
    refine EW.bl 1 (by kernel_rfl) ?_
    refine EW.sq (by kernel_rfl) ?_
    refine EW.rg (by kernel_rfl) ?_
    obtain ⟨d3, H⟩ := ite_in H
    refine EL.of (EO.Y (YO.idx 88 1 ⟨a4, 0, none⟩ a1.length 4 .i64 a2 33 (by kernel_rfl) (by kernel_rfl) (by kernel_rfl) (by kernel_rfl) d3 c1) ?_)
    refine EL.of (EO.Y (YO.loadEl hS (Kd.int .i32) ⟨a4, 0, none⟩ 4 a1 (Rd.own 0 21 rfl) 0 (encI .i32) encI_of a2 d3 c1 21 1 0 1 rfl (ib (a1.getD a2.toNat 0)) 34 (by kernel_rfl) (by kernel_rfl) (by kernel_rfl) (by kernel_rfl)) ?_)
    refine EL.quick 1 [3, 5, 29, 30, 31] [(3, sv a8 a9 a5), (5, ib (a1.getD a2.toNat 0)), (29, sv (some ⟨a4, 0, none⟩) 4 a1), (30, ia (a1.length : Int)), (31, ia a2)] (by kernel_rfl) ?_
    refine EL.done (by kernel_rfl) ?_
    refine EQ.code ?_
    refine EW.rg (by kernel_rfl) ?_
    refine EL.quick 3 [29, 30, 31, 35, 37] [(29, sv (some ⟨a4, 0, none⟩) 4 a1), (30, ia (a1.length : Int)), (31, ia a2), (35, sv a8 a9 a5), (37, ia (IntKind.i64.wrap (a1.getD a2.toNat 0)))] (by kernel_rfl) ?_
    obtain ⟨d9, H⟩ := ite_in H
    obtain ⟨c3, e7, H⟩ := lt_out H
    have hq := Door.strconv_Itoa hS gB d9 e7
    refine EL.of (EO.callD 52 [.int .i64 (IntKind.i64.wrap (a1.getD a2.toNat 0))] _ 38 (by kernel_rfl) (by kernel_rfl) (by kernel_rfl) hq ?_)
    rintro v w ⟨rfl, hS⟩
    obtain ⟨b8, d6, H⟩ := lt_out H
    refine EL.of (EO.lit hS Kd.str 9 68 1 #[(0, .string c3)] [.string c3] b8 39 (by kernel_rfl) (by kernel_rfl) (by kernel_rfl) (fun _ => (by kernel_rfl)) (by rw [d6]; rfl) (by kernel_rfl) (fun w G hr => (by rw [d6]; exact ⟨[.string c3], [], rfl, rfl, rfl⟩)) ?_)
    intro d2 w hS
    obtain ⟨e0, H⟩ := ite_in H
    obtain ⟨b3, e8, H⟩ := lt_out H
    refine EL.of (EO.append hS 68 68 9 16 2 Kd.str a8 a9 a5 rfl (some ⟨d2, 0, none⟩) 1 b8 (Rd.own 0 9 rfl) b3 e8 (fun b5 b6 => Ass.own 9 Kd.str (some ⟨d2, 0, none⟩) 1 b8 :: Ass.own 21 (Kd.int .i32) (some ⟨a4, 0, none⟩) 4 a1 :: Ass.own 9 Kd.str b5 b6 b3 :: Ass.mps .i64 c8 a7 :: Ass.box 28 a3 (encS28 a0) :: os) 40 (by kernel_rfl) (by kernel_rfl) (by kernel_rfl) (by kernel_rfl) e0 (fun _ _ => rfl) ?_)
    intro b5 b6 w hS
    refine EL.quick 1 [3, 29, 30, 31] [(3, sv b5 b6 b3), (29, sv (some ⟨a4, 0, none⟩) 4 a1), (30, ia (a1.length : Int)), (31, ia a2)] (by kernel_rfl) ?_
    refine EL.done (by kernel_rfl) ?_
    refine EQ.pop ?_
    refine EQ.code ?_
    refine EW.rg (by kernel_rfl) ?_
    refine EL.quick 2 [3, 29, 30, 31] [(3, sv b5 b6 b3), (29, sv (some ⟨a4, 0, none⟩) 4 a1), (30, ia (a1.length : Int)), (31, ia (IntKind.i64.wrap (a2 + 1)))] (by kernel_rfl) ?_
    refine EL.done (by kernel_rfl) ?_
    refine EQ.to ?_
    refine EQ.keep [3, 29, 30, 31] [(3, sv b5 b6 b3), (29, sv (some ⟨a4, 0, none⟩) 4 a1), (30, ia (a1.length : Int)), (31, ia (IntKind.i64.wrap (a2 + 1)))] (by kernel_rfl) ?_
    exact fun a ha => ⟨n, Nat.lt_succ_self n, b3, IntKind.i64.wrap (a2 + 1), b5, b6, ha, (hS.re [4, 4, 4, 4] [4] rfl (sub_self)), H⟩
   rw [if_neg c1] at H
   refine EW.exit (id := 0) (by kernel_rfl) ?_
   refine EQ.exitCode ?_
   refine EQ.exitTo ?_
   refine EQ.exitHere ?_
   refine EQ.to ?_
   refine EQ.keep [3] [(3, sv a8 a9 a5)] (by kernel_rfl) ?_
   exact fun a ha => ⟨a1, a5, (some ⟨a4, 0, none⟩), 4, a8, a9, ha, (hS.re [3, 3, 3, 3] [] rfl (sub_self)), H⟩
  obtain ⟨c7, b0, d0, d1, b9, c0, ha, hS, H⟩ := hI
  rw [e4] at H
  (try dsimp only at H)
  refine EW.at ?_ a ha
  clear ha a
  refine EW.sq (by kernel_rfl) ?_
  refine EW.rg (by kernel_rfl) ?_
  refine EL.quick 1 [42] [(42, sv b9 c0 b0)] (by kernel_rfl) ?_
  obtain ⟨e1, H⟩ := ite_in H
  obtain ⟨c5, e9, H⟩ := lt_out H
  have hq := Door.strings_Join hS (Rd.own 1 9 rfl) e1 e9
  refine EL.of (EO.callD 54 [sv b9 c0 b0, .string (⟨#[32]⟩ : ByteArray)] _ 43 (by kernel_rfl) (by kernel_rfl) (by kernel_rfl) hq ?_)
  rintro v w ⟨rfl, hS⟩
  refine EL.quick 1 [2] [(2, .string c5)] (by kernel_rfl) ?_
  refine EL.done (by kernel_rfl) ?_
  refine EQ.code ?_
  refine EW.ret (by kernel_rfl) ?_
  obtain rfl := Option.some.inj H
  exact EQ.leave (.string c5) (by kernel_rfl) ⟨_, rfl, rfl, (hS.re [] [0, 0, 0, 0] rfl (sub_self))⟩
 rw [if_neg c9] at H
 refine EW.sq (by kernel_rfl) ?_
 refine EW.rg (by kernel_rfl) ?_
 refine EL.quick 1 [2] [(2, .string (⟨#[]⟩ : ByteArray))] (by kernel_rfl) ?_
 refine EL.done (by kernel_rfl) ?_
 refine EQ.code ?_
 refine EW.ret (by kernel_rfl) ?_
 refine EQ.ret ?_
 obtain rfl := Option.some.inj H
 exact EQ.leave (.string (⟨#[]⟩ : ByteArray)) (by kernel_rfl) ⟨_, rfl, rfl, (hS.re [] [0] rfl (sub_self))⟩

/-! ### confidant/trace.Of$1: function 48 -/
def trace_Of_1.f (K : Nat) (a0 : S28) : Option Int := some a0.f1
set_option maxRecDepth 100000 in
theorem trace_Of_1.calls {K : Nat} {a0 : S28} {a2 : Int} {B w : World} {os : List Ass} {rs : List Ro} (H : trace_Of_1.f K a0 = some a2) (hS : St B w (os) (rs)) :
  Calls Tryd.prog 48 [ag (encS28 a0)].toArray w (fun en w' => ∃ v, en = .returned v ∧ v = ia a2 ∧ St B w' (os) (rs)) := by
 unfold trace_Of_1.f at H
 refine calls_of_EW (args := [ag (encS28 a0)]) (c := Cd48) 5 Tryd.func48 (by kernel_rfl) (by kernel_rfl) (by kernel_rfl) ?_
 refine EW.sq (by kernel_rfl) ?_
 refine EW.rg (by kernel_rfl) ?_
 refine EL.of (EO.box hS 28 (ag (encS28 a0)) (encS28 a0) 1 (by kernel_rfl) (by kernel_rfl) (by kernel_rfl) (by first | rfl | kernel_rfl) ?_)
 intro a1 w hS
 refine EL.quick 1 [1] [(1, pt a1 0)] (by kernel_rfl) ?_
 refine EL.done (by kernel_rfl) ?_
 refine EQ.code ?_
 refine EW.sq (by kernel_rfl) ?_
 refine EW.rg (by kernel_rfl) ?_
 refine EL.quick 1 [3] [(3, pt a1 1)] (by kernel_rfl) ?_
 refine EL.of (EO.Y (YO.loadBox hS 0 rfl 3 1 1 (ia a0.f1) 4 (by kernel_rfl) (by kernel_rfl) (by kernel_rfl) (by kernel_rfl)) ?_)
 refine EL.quick 1 [2] [(2, ia a0.f1)] (by kernel_rfl) ?_
 refine EL.done (by kernel_rfl) ?_
 refine EQ.code ?_
 refine EW.ret (by kernel_rfl) ?_
 obtain rfl := Option.some.inj H
 exact EQ.leave (ia a0.f1) (by kernel_rfl) ⟨_, rfl, rfl, (hS.re [] [0] rfl (sub_self))⟩

/-! ### slices.Index[[]int,int]: function 91 -/
def slices_Index_int_int.l0 (K : Nat) (a0 : List Int) (a2 : Int) : Nat → Int → Option Int
 | 0, _ => none
 | n + 1, a1 => if a1 < (a0.length : Int) then (if 0 ≤ a1 then (if a2 = (a0.getD a1.toNat 0) then (some a1) else (slices_Index_int_int.l0 K a0 a2 n (IntKind.i64.wrap (a1 + 1)))) else none) else (some (-1))
def slices_Index_int_int.f (K : Nat) (a0 : List Int) (a2 : Int) : Option Int := slices_Index_int_int.l0 K a0 a2 K 0
set_option maxRecDepth 100000 in
theorem slices_Index_int_int.calls {K : Nat} {a0 : List Int} {a2 : Int} {a4 : Option Addr} {a3 : Nat} {a9 : Int} {B w : World} {os : List Ass} {rs : List Ro} (H : slices_Index_int_int.f K a0 a2 = some a9) (hS : St B w (os) (Ro.sl (Kd.int .i64) a4 a3 a0 :: rs)) :
  Calls Tryd.prog 91 [sv a4 a3 a0, ia a2].toArray w (fun en w' => ∃ v, en = .returned v ∧ v = ia a9 ∧ St B w' (os) (Ro.sl (Kd.int .i64) a4 a3 a0 :: rs)) := by
 unfold slices_Index_int_int.f at H
 refine calls_of_EW (args := [sv a4 a3 a0, ia a2]) (c := Cd91) 19 Tryd.func91 (by kernel_rfl) (by kernel_rfl) (by kernel_rfl) ?_
 refine EW.sq (by kernel_rfl) ?_
 refine EW.rg (by kernel_rfl) ?_
 refine EL.quick 1 [0, 1] [(0, sv a4 a3 a0), (1, ia a2)] (by kernel_rfl) ?_
 refine EL.done (by kernel_rfl) ?_
 refine EQ.code ?_
 refine EW.sq (by kernel_rfl) ?_
 refine EW.sq (by kernel_rfl) ?_
 refine EW.rg (by kernel_rfl) ?_
 refine EL.quick 3 [0, 1, 7, 8] [(0, sv a4 a3 a0), (1, ia a2), (7, ia (a0.length : Int)), (8, ia 0)] (by kernel_rfl) ?_
 refine EL.done (by kernel_rfl) ?_
 refine EQ.code ?_
 refine EW.bl 0 (by kernel_rfl) ?_
 refine EW.lp (fun n a w => ∃ a1 : Int, Sat 19 [(0, sv a4 a3 a0), (1, ia a2), (7, ia (a0.length : Int)), (8, ia a1)] a ∧ St B w (os) (Ro.sl (Kd.int .i64) a4 a3 a0 :: rs) ∧ slices_Index_int_int.l0 K a0 a2 n a1 = some a9) K (by kernel_rfl) ?_ (fun n a w hI => ?_)
 ·refine EQ.keep [0, 1, 7, 8] [(0, sv a4 a3 a0), (1, ia a2), (7, ia (a0.length : Int)), (8, ia 0)] (by kernel_rfl) ?_
  exact fun a ha => ⟨0, ha, (hS.re [] [] rfl (sub_cons 0 rfl (sub_tail (sub_self)))), H⟩
 obtain ⟨a1, ha, hS, H⟩ := hI
 obtain _ | n := n
 ·simp [slices_Index_int_int.l0] at H
 rw [slices_Index_int_int.l0.eq_2] at H
 refine EW.at ?_ a ha
 clear ha a
 refine EW.sq (by kernel_rfl) ?_
 refine EW.rg (by kernel_rfl) ?_
 refine EL.quick 1 [0, 1, 7, 8, 9] [(0, sv a4 a3 a0), (1, ia a2), (7, ia (a0.length : Int)), (8, ia a1), (9, .bool (decide (a1 < (a0.length : Int))))] (by kernel_rfl) ?_
 refine EL.done (by kernel_rfl) ?_
 refine EQ.code ?_
 refine EW.sq (by kernel_rfl) ?_
 refine EW.cdP (a1 < (a0.length : Int)) (by kernel_rfl) (by kernel_rfl) (fun a5 => ?_) (fun a5 => ?_)
 ·rw [if_pos a5] at H
  refine EW.skip (by kernel_rfl) ?_
  refine EQ.code ?_
  refine EW.sq (by kernel_rfl) ?_
  refine EW.bl 1 (by kernel_rfl) ?_
  refine EW.sq (by kernel_rfl) ?_
  refine EW.rg (by kernel_rfl) ?_
  refine EL.quick 2 [0, 1, 5, 7, 8] [(0, sv a4 a3 a0), (1, ia a2), (5, ia a1), (7, ia (a0.length : Int)), (8, ia a1)] (by kernel_rfl) ?_
  refine EL.done (by kernel_rfl) ?_
  refine EQ.code ?_
  refine EW.sq (by kernel_rfl) ?_
  refine EW.rg (by kernel_rfl) ?_
  refine EL.quick 3 [0, 1, 5, 7, 8, 11, 12, 13] [(0, sv a4 a3 a0), (1, ia a2), (5, ia a1), (7, ia (a0.length : Int)), (8, ia a1), (11, ia a2), (12, sv a4 a3 a0), (13, ia a1)] (by kernel_rfl) ?_
  obtain ⟨a7, H⟩ := ite_in H
  obtain ⟨a6, rfl⟩ := St.rd_some hS (Rd.ro 0 rfl) a7 a5
  refine EL.of (EO.Y (YO.idx 24 1 a6 a0.length a3 .i64 a1 14 (by kernel_rfl) (by kernel_rfl) (by kernel_rfl) (by kernel_rfl) a7 a5) ?_)
  refine EL.of (EO.Y (YO.loadEl hS (Kd.int .i64) a6 a3 a0 (Rd.ro 0 rfl) 0 (encI .i64) encI_of a1 a7 a5 3 1 0 1 rfl (ia (a0.getD a1.toNat 0)) 15 (by kernel_rfl) (by kernel_rfl) (by kernel_rfl) (by kernel_rfl)) ?_)
  refine EL.quick 1 [0, 1, 5, 7, 8, 16] [(0, sv (some a6) a3 a0), (1, ia a2), (5, ia a1), (7, ia (a0.length : Int)), (8, ia a1), (16, .bool (decide (a2 = (a0.getD a1.toNat 0))))] (by kernel_rfl) ?_
  refine EL.done (by kernel_rfl) ?_
  refine EQ.code ?_
  refine EW.cdP (a2 = (a0.getD a1.toNat 0)) (by kernel_rfl) (by kernel_rfl) (fun a8 => ?_) (fun a8 => ?_)
  ·rw [if_pos a8] at H
   refine EW.sq (by kernel_rfl) ?_
   refine EW.rg (by kernel_rfl) ?_
   refine EL.quick 2 [4] [(4, ia a1)] (by kernel_rfl) ?_
   refine EL.done (by kernel_rfl) ?_
   refine EQ.code ?_
   refine EW.ret (by kernel_rfl) ?_
   refine EQ.ret ?_
   refine EQ.ret ?_
   refine EQ.ret ?_
   refine EQ.ret ?_
   refine EQ.ret ?_
   obtain rfl := Option.some.inj H
   exact EQ.leave (ia a1) (by kernel_rfl) ⟨_, rfl, rfl, (hS.re [] [] rfl (sub_self))⟩
  rw [if_neg a8] at H
  refine EW.skip (by kernel_rfl) ?_
  refine EQ.pop ?_
  refine EQ.code ?_
  refine EW.rg (by kernel_rfl) ?_
  refine EL.quick 2 [0, 1, 7, 8] [(0, sv (some a6) a3 a0), (1, ia a2), (7, ia (a0.length : Int)), (8, ia (IntKind.i64.wrap (a1 + 1)))] (by kernel_rfl) ?_
  refine EL.done (by kernel_rfl) ?_
  refine EQ.to ?_
  refine EQ.keep [0, 1, 7, 8] [(0, sv (some a6) a3 a0), (1, ia a2), (7, ia (a0.length : Int)), (8, ia (IntKind.i64.wrap (a1 + 1)))] (by kernel_rfl) ?_
  exact fun a ha => ⟨n, Nat.lt_succ_self n, IntKind.i64.wrap (a1 + 1), ha, (hS.re [] [] rfl (sub_cons 0 rfl (sub_tail (sub_self)))), H⟩
 rw [if_neg a5] at H
 refine EW.exit (id := 0) (by kernel_rfl) ?_
 refine EQ.exitCode ?_
 refine EQ.exitTo ?_
 refine EQ.exitHere ?_
 refine EQ.code ?_
 refine EW.sq (by kernel_rfl) ?_
 refine EW.rg (by kernel_rfl) ?_
 refine EL.quick 1 [4] [(4, ia (-1))] (by kernel_rfl) ?_
 refine EL.done (by kernel_rfl) ?_
 refine EQ.code ?_
 refine EW.ret (by kernel_rfl) ?_
 obtain rfl := Option.some.inj H
 exact EQ.leave (ia (-1)) (by kernel_rfl) ⟨_, rfl, rfl, (hS.re [] [] rfl (sub_self))⟩

/-! ### slices.Contains[[]int,int]: function 76 -/
def slices_Contains_int_int.f (K : Nat) (a0 : List Int) (a3 : Int) : Option Bool := b1 (slices_Index_int_int.f K a0 a3) fun (a4 : Int) => (some (decide (a4 ≥ 0)))
set_option maxRecDepth 100000 in
theorem slices_Contains_int_int.calls {K : Nat} {a0 : List Int} {a3 : Int} {a1 : Option Addr} {a2 : Nat} {a5 : Bool} {B w : World} {os : List Ass} {rs : List Ro} (H : slices_Contains_int_int.f K a0 a3 = some a5) (hS : St B w (os) (Ro.sl (Kd.int .i64) a1 a2 a0 :: rs)) :
  Calls Tryd.prog 76 [sv a1 a2 a0, ia a3].toArray w (fun en w' => ∃ v, en = .returned v ∧ v = .bool (a5) ∧ St B w' (os) (Ro.sl (Kd.int .i64) a1 a2 a0 :: rs)) := by
 unfold slices_Contains_int_int.f at H
 refine calls_of_EW (args := [sv a1 a2 a0, ia a3]) (c := Cd76) 9 Tryd.func76 (by kernel_rfl) (by kernel_rfl) (by kernel_rfl) ?_
 refine EW.sq (by kernel_rfl) ?_
 refine EW.rg (by kernel_rfl) ?_
 refine EL.quick 1 [0, 1] [(0, sv a1 a2 a0), (1, ia a3)] (by kernel_rfl) ?_
 refine EL.done (by kernel_rfl) ?_
 refine EQ.code ?_
 refine EW.sq (by kernel_rfl) ?_
 refine EW.rg (by kernel_rfl) ?_
 refine EL.quick 2 [5, 6] [(5, sv a1 a2 a0), (6, ia a3)] (by kernel_rfl) ?_
 have hS : St B _ (os) (Ro.sl (Kd.int .i64) a1 a2 a0 :: rs) := hS.re [] [] rfl (sub_cons 0 rfl (sub_tail (sub_self)))
 obtain ⟨a4, a6, H⟩ := b1_out H
 have hq := slices_Index_int_int.calls a6 hS
 refine EL.of (EO.callD 91 [sv a1 a2 a0, ia a3] _ 7 (by kernel_rfl) (by kernel_rfl) (by kernel_rfl) hq ?_)
 rintro v w ⟨rfl, hS⟩
 refine EL.quick 2 [4] [(4, .bool (decide (a4 ≥ 0)))] (by kernel_rfl) ?_
 refine EL.done (by kernel_rfl) ?_
 refine EQ.code ?_
 refine EW.ret (by kernel_rfl) ?_
 obtain rfl := Option.some.inj H
 exact EQ.leave (.bool (decide (a4 ≥ 0))) (by kernel_rfl) ⟨_, rfl, rfl, (hS.re [] [] rfl (sub_self))⟩

/-! ### confidant/trace.Of: function 19 -/
def trace_Of.l0 (K : Nat) (a0 : List S28) (a2 : List Int) (b5 : (List S28) → Option (List S28)) : Nat → (List S28) → Int → Option (List S28)
 | 0, _, _ => none
 | n + 1, a7, a1 => if a1 < (a0.length : Int) then (lt (fun (b0 : List S28) => (trace_Of.l0 K a0 a2 b5 n b0 (IntKind.i64.wrap (a1 + 1)))) fun c6 => (if 0 ≤ a1 then (b1 (trace_Of_1.f K (a0.getD a1.toNat zS28)) fun (c9 : Int) => (b1 (slices_Contains_int_int.f K a2 c9) fun (d0 : Bool) => (if d0 = true then (lt ([(a0.getD a1.toNat zS28)] : List S28) fun c2 => (if (a7.length + c2.length) * 48 ≤ 140737488355328 then (lt (a7 ++ c2) fun b6 => (c6 b6)) else none)) else (c6 a7)))) else none)) else (b5 a7)
def trace_Of.f (K : Nat) (a0 : List S28) (a2 : List Int) : Option (List S28) := lt (fun (b3 : List S28) => (some b3)) fun b5 => (trace_Of.l0 K a0 a2 b5 K ([] : List S28) 0)
set_option maxRecDepth 100000 in
theorem trace_Of.calls {K : Nat} {a0 : List S28} {a2 : List Int} {a6 : Option Addr} {a4 : Nat} {a3 : Option Addr} {a5 : Nat} {c3 : List S28} {B w : World} {os : List Ass} {rs : List Ro} (H : trace_Of.f K a0 a2 = some c3) (hS : St B w (os) (Ro.sl kS28 a6 a4 a0 :: Ro.sl (Kd.int .i64) a3 a5 a2 :: rs)) :
  Calls Tryd.prog 19 [sv a6 a4 a0, sv a3 a5 a2].toArray w (fun en w' => ∃ v, en = .returned v ∧ ∃ d1 : Option Addr, ∃ d2 : Nat, v = sv d1 d2 c3 ∧ St B w' (Ass.own 28 kS28 d1 d2 c3 :: os) (Ro.sl kS28 a6 a4 a0 :: Ro.sl (Kd.int .i64) a3 a5 a2 :: rs)) := by
 unfold trace_Of.f at H
 refine calls_of_EW (args := [sv a6 a4 a0, sv a3 a5 a2]) (c := Cd19) 8 Tryd.func19 (by kernel_rfl) (by kernel_rfl) (by kernel_rfl) ?_
 refine EW.sq (by kernel_rfl) ?_
 refine EW.rg (by kernel_rfl) ?_
 refine EL.quick 1 [0, 1] [(0, sv a6 a4 a0), (1, sv a3 a5 a2)] (by kernel_rfl) ?_
 refine EL.done (by kernel_rfl) ?_
 refine EQ.code ?_
 refine EW.sq (by kernel_rfl) ?_
 refine EW.rg (by kernel_rfl) ?_
 refine EL.quick 2 [5, 6] [(5, sv a6 a4 a0), (6, sv a3 a5 a2)] (by kernel_rfl) ?_
 obtain ⟨b5, d9, H⟩ := lt_out H
 refine EL.of (EO.callD 47 [sv a6 a4 a0, .func (.func 48) #[] #[], sv a3 a5 a2] (fun v w => ∃ b3 : List S28, ∃ b7 : Option Addr, ∃ b9 : Nat, v = sv b7 b9 b3 ∧ St B w (Ass.own 28 kS28 b7 b9 b3 :: os) (Ro.sl kS28 a6 a4 a0 :: Ro.sl (Kd.int .i64) a3 a5 a2 :: rs) ∧ b5 b3 = some c3) 7 (by kernel_rfl) (by kernel_rfl) (by kernel_rfl) ?_ ?_)
 ·refine calls_of_EW (args := [sv a6 a4 a0, .func (.func 48) #[] #[], sv a3 a5 a2]) (c := Cd47) 27 Tryd.func47 (by kernel_rfl) (by kernel_rfl) (by kernel_rfl) ?_
  refine EW.sq (by kernel_rfl) ?_
  refine EW.rg (by kernel_rfl) ?_
  refine EL.quick 1 [0, 1, 2] [(0, sv a6 a4 a0), (1, .func (.func 48) #[] #[]), (2, sv a3 a5 a2)] (by kernel_rfl) ?_
  refine EL.done (by kernel_rfl) ?_
  refine EQ.code ?_
  refine EW.sq (by kernel_rfl) ?_
  refine EW.rg (by kernel_rfl) ?_
  refine EL.quick 1 [0, 1, 2, 7] [(0, sv a6 a4 a0), (1, .func (.func 48) #[] #[]), (2, sv a3 a5 a2), (7, sv none 0 ([] : List S28))] (by kernel_rfl) ?_
  refine EL.done (by kernel_rfl) ?_
  refine EQ.code ?_
  refine EW.sq (by kernel_rfl) ?_
  refine EW.sq (by kernel_rfl) ?_
  refine EW.rg (by kernel_rfl) ?_
  refine EL.quick 3 [1, 2, 7, 10, 11, 12] [(1, .func (.func 48) #[] #[]), (2, sv a3 a5 a2), (7, sv none 0 ([] : List S28)), (10, sv a6 a4 a0), (11, ia (a0.length : Int)), (12, ia 0)] (by kernel_rfl) ?_
  refine EL.done (by kernel_rfl) ?_
  refine EQ.code ?_
  refine EW.bl 0 (by kernel_rfl) ?_
  have hS := St.nilO hS 28 kS28
  refine EW.lp (fun n a w => ∃ a7 : List S28, ∃ a1 : Int, ∃ a8 : Option Addr, ∃ a9 : Nat, Sat 27 [(1, .func (.func 48) #[] #[]), (2, sv a3 a5 a2), (7, sv a8 a9 a7), (10, sv a6 a4 a0), (11, ia (a0.length : Int)), (12, ia a1)] a ∧ St B w (Ass.own 28 kS28 a8 a9 a7 :: os) (Ro.sl kS28 a6 a4 a0 :: Ro.sl (Kd.int .i64) a3 a5 a2 :: rs) ∧ trace_Of.l0 K a0 a2 b5 n a7 a1 = some c3) K (by kernel_rfl) ?_ (fun n a w hI => ?_)
  ·refine EQ.keep [1, 2, 7, 10, 11, 12] [(1, .func (.func 48) #[] #[]), (2, sv a3 a5 a2), (7, sv none 0 ([] : List S28)), (10, sv a6 a4 a0), (11, ia (a0.length : Int)), (12, ia 0)] (by kernel_rfl) ?_
   exact fun a ha => ⟨([] : List S28), 0, none, 0, ha, (hS.re [0] [] rfl (sub_cons 0 rfl (sub_cons 1 rfl (sub_tail (sub_tail (sub_self)))))), H⟩
  obtain ⟨a7, a1, a8, a9, ha, hS, H⟩ := hI
  obtain _ | n := n
  ·simp [trace_Of.l0] at H
  rw [trace_Of.l0.eq_2] at H
  refine EW.at ?_ a ha
  clear ha a
  refine EW.sq (by kernel_rfl) ?_
  refine EW.rg (by kernel_rfl) ?_
  refine EL.quick 1 [1, 2, 7, 10, 11, 12, 13] [(1, .func (.func 48) #[] #[]), (2, sv a3 a5 a2), (7, sv a8 a9 a7), (10, sv a6 a4 a0), (11, ia (a0.length : Int)), (12, ia a1), (13, .bool (decide (a1 < (a0.length : Int))))] (by kernel_rfl) ?_
  refine EL.done (by kernel_rfl) ?_
  refine EQ.code ?_
  refine EW.sq (by kernel_rfl) ?_
  refine EW.cdP (a1 < (a0.length : Int)) (by kernel_rfl) (by kernel_rfl) (fun c1 => ?_) (fun c1 => ?_)
  ·rw [if_pos c1] at H
   refine EW.skip (by kernel_rfl) ?_
   refine EQ.code ?_
   obtain ⟨c6, e0, H⟩ := lt_out H
   refine EW.ct (fun a w => ∃ b0 : List S28, ∃ d3 : Nat, ∃ b8 : Option Addr, ∃ c0 : Nat, Sat 27 [(1, .func (.func 48) #[] #[]), (2, sv a3 a5 a2), (7, sv b8 c0 b0), (10, sv a6 a4 a0), (11, ia (a0.length : Int)), (12, ia a1)] a ∧ St B w (Ass.box 28 d3 (encS28 (a0.getD a1.toNat zS28)) :: Ass.own 28 kS28 b8 c0 b0 :: os) (Ro.sl (Kd.int .i64) a3 a5 a2 :: Ro.sl kS28 a6 a4 a0 :: rs) ∧ c6 b0 = some c3) (by kernel_rfl) ?_ (fun a w hI => ?_)
   ·refine EW.bl 1 (by kernel_rfl) ?_
    refine EW.sq (by kernel_rfl) ?_
    refine EW.rg (by kernel_rfl) ?_
    obtain ⟨c7, H⟩ := ite_in H
    obtain ⟨b2, rfl⟩ := St.rd_some hS (Rd.ro 0 rfl) c7 c1
    refine EL.of (EO.Y (YO.idx 22 7 b2 a0.length a4 .i64 a1 14 (by kernel_rfl) (by kernel_rfl) (by kernel_rfl) (by kernel_rfl) c7 c1) ?_)
    refine EL.of (EO.Y (YO.loadEl hS kS28 b2 a4 a0 (Rd.ro 0 rfl) zS28 encS28 encS28_of a1 c7 c1 28 7 0 7 rfl (ag (encS28 (a0.getD a1.toNat zS28))) 15 (by kernel_rfl) (by kernel_rfl) (by kernel_rfl) (by kernel_rfl)) ?_)
    refine EL.of (EO.alloc hS 28 (ag (encS28 zS28)) (encS28 zS28) 9 (by kernel_rfl) (by kernel_rfl) (by kernel_rfl) (by kernel_rfl) (by first | rfl | kernel_rfl) ?_)
    intro b4 w hS
    refine EL.of (EO.storeBox (os' := Ass.box 28 b4 (encS28 (a0.getD a1.toNat zS28)) :: Ass.own 28 kS28 a8 a9 a7 :: os) hS 0 rfl 28 0 (ag (encS28 (a0.getD a1.toNat zS28))) (encS28 (a0.getD a1.toNat zS28)) (by kernel_rfl) (by kernel_rfl) (by kernel_rfl) (by kernel_rfl) (by kernel_rfl) (by kernel_rfl) rfl rfl ?_)
    intro w hS
    refine EL.done (by kernel_rfl) ?_
    refine EQ.code ?_
    refine EW.sq (by kernel_rfl) ?_
    refine EW.rg (by kernel_rfl) ?_
    refine EL.quick 2 [1, 2, 7, 9, 10, 11, 12, 16, 17] [(1, .func (.func 48) #[] #[]), (2, sv a3 a5 a2), (7, sv a8 a9 a7), (9, pt b4 0), (10, sv (some b2) a4 a0), (11, ia (a0.length : Int)), (12, ia a1), (16, sv a3 a5 a2), (17, .func (.func 48) #[] #[])] (by kernel_rfl) ?_
    refine EL.of (EO.Y (YO.loadBox hS 0 rfl 28 0 7 (ag (encS28 (a0.getD a1.toNat zS28))) 18 (by kernel_rfl) (by kernel_rfl) (by kernel_rfl) (by kernel_rfl)) ?_)
    obtain ⟨c9, d7, H⟩ := b1_out H
    have hq := trace_Of_1.calls d7 hS
    refine EL.of (EO.callD 48 [ag (encS28 (a0.getD a1.toNat zS28))] _ 19 (by kernel_rfl) (by kernel_rfl) (by kernel_rfl) hq ?_)
    rintro v w ⟨rfl, hS⟩
    have hS : St B _ (Ass.box 28 b4 (encS28 (a0.getD a1.toNat zS28)) :: Ass.own 28 kS28 a8 a9 a7 :: os) (Ro.sl (Kd.int .i64) a3 a5 a2 :: Ro.sl kS28 (some b2) a4 a0 :: rs) := hS.re [] [] rfl (sub_cons 1 rfl (sub_cons 0 rfl (sub_tail (sub_tail (sub_self)))))
    obtain ⟨d0, d8, H⟩ := b1_out H
    have hq := slices_Contains_int_int.calls d8 hS
    refine EL.of (EO.callD 76 [sv a3 a5 a2, ia c9] _ 20 (by kernel_rfl) (by kernel_rfl) (by kernel_rfl) hq ?_)
    rintro v w ⟨rfl, hS⟩
    refine EL.done (by kernel_rfl) ?_
    refine EQ.code ?_
    refine EW.cdP' (d0) (by kernel_rfl) (by kernel_rfl) (fun c8 => ?_) (fun c8 => ?_)
    ·rw [if_pos c8] at H
     refine EW.rg (by kernel_rfl) ?_
     refine EL.quick 1 [1, 2, 9, 10, 11, 12, 21] [(1, .func (.func 48) #[] #[]), (2, sv a3 a5 a2), (9, pt b4 0), (10, sv (some b2) a4 a0), (11, ia (a0.length : Int)), (12, ia a1), (21, sv a8 a9 a7)] (by kernel_rfl) ?_
     refine EL.of (EO.Y (YO.loadBox hS 0 rfl 28 0 7 (ag (encS28 (a0.getD a1.toNat zS28))) 22 (by kernel_rfl) (by kernel_rfl) (by kernel_rfl) (by kernel_rfl)) ?_)
     obtain ⟨c2, d5, H⟩ := lt_out H
     refine EL.of (EO.lit hS kS28 28 22 1 #[(0, ag (encS28 (a0.getD a1.toNat zS28)))] [ia ((a0.getD a1.toNat zS28).f0), ia ((a0.getD a1.toNat zS28).f1), ia ((a0.getD a1.toNat zS28).f2), ia ((a0.getD a1.toNat zS28).f3), ib ((a0.getD a1.toNat zS28).f4), ib ((a0.getD a1.toNat zS28).f5), ib ((a0.getD a1.toNat zS28).f6)] c2 23 (by kernel_rfl) (by kernel_rfl) (by kernel_rfl) (fun _ => (by kernel_rfl)) (by rw [d5]; rfl) (by kernel_rfl) (fun w G hr => (by rw [d5]; exact ⟨[ia ((a0.getD a1.toNat zS28).f0), ia ((a0.getD a1.toNat zS28).f1), ia ((a0.getD a1.toNat zS28).f2), ia ((a0.getD a1.toNat zS28).f3), ib ((a0.getD a1.toNat zS28).f4), ib ((a0.getD a1.toNat zS28).f5), ib ((a0.getD a1.toNat zS28).f6)], [], rfl, ⟨[ia ((a0.getD a1.toNat zS28).f0)], [ia ((a0.getD a1.toNat zS28).f1), ia ((a0.getD a1.toNat zS28).f2), ia ((a0.getD a1.toNat zS28).f3), ib ((a0.getD a1.toNat zS28).f4), ib ((a0.getD a1.toNat zS28).f5), ib ((a0.getD a1.toNat zS28).f6)], rfl, rfl, ⟨[ia ((a0.getD a1.toNat zS28).f1)], [ia ((a0.getD a1.toNat zS28).f2), ia ((a0.getD a1.toNat zS28).f3), ib ((a0.getD a1.toNat zS28).f4), ib ((a0.getD a1.toNat zS28).f5), ib ((a0.getD a1.toNat zS28).f6)], rfl, rfl, ⟨[ia ((a0.getD a1.toNat zS28).f2)], [ia ((a0.getD a1.toNat zS28).f3), ib ((a0.getD a1.toNat zS28).f4), ib ((a0.getD a1.toNat zS28).f5), ib ((a0.getD a1.toNat zS28).f6)], rfl, rfl, ⟨[ia ((a0.getD a1.toNat zS28).f3)], [ib ((a0.getD a1.toNat zS28).f4), ib ((a0.getD a1.toNat zS28).f5), ib ((a0.getD a1.toNat zS28).f6)], rfl, rfl, ⟨[ib ((a0.getD a1.toNat zS28).f4)], [ib ((a0.getD a1.toNat zS28).f5), ib ((a0.getD a1.toNat zS28).f6)], rfl, rfl, ⟨[ib ((a0.getD a1.toNat zS28).f5)], [ib ((a0.getD a1.toNat zS28).f6)], rfl, rfl, ⟨[ib ((a0.getD a1.toNat zS28).f6)], [], rfl, rfl, rfl⟩⟩⟩⟩⟩⟩⟩, rfl⟩)) ?_)
     intro d4 w hS
     obtain ⟨d6, H⟩ := ite_in H
     obtain ⟨b6, e1, H⟩ := lt_out H
     refine EL.of (EO.append hS 22 22 28 48 2 kS28 a8 a9 a7 rfl (some ⟨d4, 0, none⟩) 1 c2 (Rd.own 0 28 rfl) b6 e1 (fun c4 c5 => Ass.own 28 kS28 (some ⟨d4, 0, none⟩) 1 c2 :: Ass.box 28 b4 (encS28 (a0.getD a1.toNat zS28)) :: Ass.own 28 kS28 c4 c5 b6 :: os) 24 (by kernel_rfl) (by kernel_rfl) (by kernel_rfl) (by kernel_rfl) d6 (fun _ _ => rfl) ?_)
     intro c4 c5 w hS
     refine EL.quick 1 [1, 2, 7, 10, 11, 12] [(1, .func (.func 48) #[] #[]), (2, sv a3 a5 a2), (7, sv c4 c5 b6), (10, sv (some b2) a4 a0), (11, ia (a0.length : Int)), (12, ia a1)] (by kernel_rfl) ?_
     refine EL.done (by kernel_rfl) ?_
     refine EQ.pop ?_
     refine EQ.to ?_
     refine EQ.keep [1, 2, 7, 10, 11, 12] [(1, .func (.func 48) #[] #[]), (2, sv a3 a5 a2), (7, sv c4 c5 b6), (10, sv (some b2) a4 a0), (11, ia (a0.length : Int)), (12, ia a1)] (by kernel_rfl) ?_
     exact fun a ha => ⟨b6, b4, c4, c5, ha, (hS.re [2, 2] [2] rfl (sub_cons 0 rfl (sub_cons 1 rfl (sub_tail (sub_tail (sub_self)))))), H⟩
    rw [if_neg c8] at H
    refine EW.skip (by kernel_rfl) ?_
    refine EQ.pop ?_
    refine EQ.to ?_
    refine EQ.keep [1, 2, 7, 10, 11, 12] [(1, .func (.func 48) #[] #[]), (2, sv a3 a5 a2), (7, sv a8 a9 a7), (10, sv (some b2) a4 a0), (11, ia (a0.length : Int)), (12, ia a1)] (by kernel_rfl) ?_
    exact fun a ha => ⟨a7, b4, a8, a9, ha, (hS.re [1, 1] [] rfl (sub_cons 0 rfl (sub_cons 1 rfl (sub_tail (sub_tail (sub_self)))))), H⟩
   obtain ⟨b0, d3, b8, c0, ha, hS, H⟩ := hI
   rw [e0] at H
   (try dsimp only at H)
   refine EW.at ?_ a ha
   clear ha a
   refine EW.rg (by kernel_rfl) ?_
   refine EL.quick 2 [1, 2, 7, 10, 11, 12] [(1, .func (.func 48) #[] #[]), (2, sv a3 a5 a2), (7, sv b8 c0 b0), (10, sv a6 a4 a0), (11, ia (a0.length : Int)), (12, ia (IntKind.i64.wrap (a1 + 1)))] (by kernel_rfl) ?_
   refine EL.done (by kernel_rfl) ?_
   refine EQ.to ?_
   refine EQ.keep [1, 2, 7, 10, 11, 12] [(1, .func (.func 48) #[] #[]), (2, sv a3 a5 a2), (7, sv b8 c0 b0), (10, sv a6 a4 a0), (11, ia (a0.length : Int)), (12, ia (IntKind.i64.wrap (a1 + 1)))] (by kernel_rfl) ?_
   exact fun a ha => ⟨n, Nat.lt_succ_self n, b0, IntKind.i64.wrap (a1 + 1), b8, c0, ha, (hS.re [1] [1] rfl (sub_cons 1 rfl (sub_cons 0 rfl (sub_tail (sub_tail (sub_self)))))), H⟩
  rw [if_neg c1] at H
  refine EW.exit (id := 0) (by kernel_rfl) ?_
  refine EQ.exitCode ?_
  refine EQ.exitTo ?_
  refine EQ.exitHere ?_
  refine EQ.code ?_
  refine EW.sq (by kernel_rfl) ?_
  refine EW.rg (by kernel_rfl) ?_
  refine EL.quick 2 [6] [(6, sv a8 a9 a7)] (by kernel_rfl) ?_
  refine EL.done (by kernel_rfl) ?_
  refine EQ.code ?_
  refine EW.ret (by kernel_rfl) ?_
  exact EQ.leave (sv a8 a9 a7) (by kernel_rfl) ⟨_, rfl, a7, a8, a9, rfl, (hS.re [0] [] rfl (sub_cons 0 rfl (sub_cons 1 rfl (sub_tail (sub_tail (sub_self)))))), H⟩
 ·rintro v w ⟨b3, b7, b9, rfl, hS, H⟩
  rw [d9] at H
  (try dsimp only at H)
  refine EL.quick 1 [4] [(4, sv b7 b9 b3)] (by kernel_rfl) ?_
  refine EL.done (by kernel_rfl) ?_
  refine EQ.code ?_
  refine EW.ret (by kernel_rfl) ?_
  obtain rfl := Option.some.inj H
  exact EQ.leave (sv b7 b9 b3) (by kernel_rfl) ⟨_, rfl, b7, b9, rfl, (hS.re [0] [] rfl (sub_self))⟩

/-! ### confidant/trace.Kinds$1: function 50 -/
def trace_Kinds_1.f (K : Nat) (a0 : S28) : Option Int := some a0.f2
set_option maxRecDepth 100000 in
theorem trace_Kinds_1.calls {K : Nat} {a0 : S28} {a2 : Int} {B w : World} {os : List Ass} {rs : List Ro} (H : trace_Kinds_1.f K a0 = some a2) (hS : St B w (os) (rs)) :
  Calls Tryd.prog 50 [ag (encS28 a0)].toArray w (fun en w' => ∃ v, en = .returned v ∧ v = ia a2 ∧ St B w' (os) (rs)) := by
 unfold trace_Kinds_1.f at H
 refine calls_of_EW (args := [ag (encS28 a0)]) (c := Cd50) 5 Tryd.func50 (by kernel_rfl) (by kernel_rfl) (by kernel_rfl) ?_
 refine EW.sq (by kernel_rfl) ?_
 refine EW.rg (by kernel_rfl) ?_
 refine EL.of (EO.box hS 28 (ag (encS28 a0)) (encS28 a0) 1 (by kernel_rfl) (by kernel_rfl) (by kernel_rfl) (by first | rfl | kernel_rfl) ?_)
 intro a1 w hS
 refine EL.quick 1 [1] [(1, pt a1 0)] (by kernel_rfl) ?_
 refine EL.done (by kernel_rfl) ?_
 refine EQ.code ?_
 refine EW.sq (by kernel_rfl) ?_
 refine EW.rg (by kernel_rfl) ?_
 refine EL.quick 1 [3] [(3, pt a1 2)] (by kernel_rfl) ?_
 refine EL.of (EO.Y (YO.loadBox hS 0 rfl 3 2 1 (ia a0.f2) 4 (by kernel_rfl) (by kernel_rfl) (by kernel_rfl) (by kernel_rfl)) ?_)
 refine EL.quick 1 [2] [(2, ia a0.f2)] (by kernel_rfl) ?_
 refine EL.done (by kernel_rfl) ?_
 refine EQ.code ?_
 refine EW.ret (by kernel_rfl) ?_
 obtain rfl := Option.some.inj H
 exact EQ.leave (ia a0.f2) (by kernel_rfl) ⟨_, rfl, rfl, (hS.re [] [0] rfl (sub_self))⟩

/-! ### confidant/trace.Kinds: function 21 -/
def trace_Kinds.l0 (K : Nat) (a0 : List S28) (a2 : List Int) (b5 : (List S28) → Option (List S28)) : Nat → (List S28) → Int → Option (List S28)
 | 0, _, _ => none
 | n + 1, a7, a1 => if a1 < (a0.length : Int) then (lt (fun (b0 : List S28) => (trace_Kinds.l0 K a0 a2 b5 n b0 (IntKind.i64.wrap (a1 + 1)))) fun c6 => (if 0 ≤ a1 then (b1 (trace_Kinds_1.f K (a0.getD a1.toNat zS28)) fun (c9 : Int) => (b1 (slices_Contains_int_int.f K a2 c9) fun (d0 : Bool) => (if d0 = true then (lt ([(a0.getD a1.toNat zS28)] : List S28) fun c2 => (if (a7.length + c2.length) * 48 ≤ 140737488355328 then (lt (a7 ++ c2) fun b6 => (c6 b6)) else none)) else (c6 a7)))) else none)) else (b5 a7)
def trace_Kinds.f (K : Nat) (a0 : List S28) (a2 : List Int) : Option (List S28) := lt (fun (b3 : List S28) => (some b3)) fun b5 => (trace_Kinds.l0 K a0 a2 b5 K ([] : List S28) 0)
set_option maxRecDepth 100000 in
theorem trace_Kinds.calls {K : Nat} {a0 : List S28} {a2 : List Int} {a6 : Option Addr} {a4 : Nat} {a3 : Option Addr} {a5 : Nat} {c3 : List S28} {B w : World} {os : List Ass} {rs : List Ro} (H : trace_Kinds.f K a0 a2 = some c3) (hS : St B w (os) (Ro.sl kS28 a6 a4 a0 :: Ro.sl (Kd.int .i64) a3 a5 a2 :: rs)) :
  Calls Tryd.prog 21 [sv a6 a4 a0, sv a3 a5 a2].toArray w (fun en w' => ∃ v, en = .returned v ∧ ∃ d1 : Option Addr, ∃ d2 : Nat, v = sv d1 d2 c3 ∧ St B w' (Ass.own 28 kS28 d1 d2 c3 :: os) (Ro.sl kS28 a6 a4 a0 :: Ro.sl (Kd.int .i64) a3 a5 a2 :: rs)) := by
 unfold trace_Kinds.f at H
 refine calls_of_EW (args := [sv a6 a4 a0, sv a3 a5 a2]) (c := Cd21) 8 Tryd.func21 (by kernel_rfl) (by kernel_rfl) (by kernel_rfl) ?_
 refine EW.sq (by kernel_rfl) ?_
 refine EW.rg (by kernel_rfl) ?_
 refine EL.quick 1 [0, 1] [(0, sv a6 a4 a0), (1, sv a3 a5 a2)] (by kernel_rfl) ?_
 refine EL.done (by kernel_rfl) ?_
 refine EQ.code ?_
 refine EW.sq (by kernel_rfl) ?_
 refine EW.rg (by kernel_rfl) ?_
 refine EL.quick 2 [5, 6] [(5, sv a6 a4 a0), (6, sv a3 a5 a2)] (by kernel_rfl) ?_
 obtain ⟨b5, d9, H⟩ := lt_out H
 refine EL.of (EO.callD 47 [sv a6 a4 a0, .func (.func 50) #[] #[], sv a3 a5 a2] (fun v w => ∃ b3 : List S28, ∃ b7 : Option Addr, ∃ b9 : Nat, v = sv b7 b9 b3 ∧ St B w (Ass.own 28 kS28 b7 b9 b3 :: os) (Ro.sl kS28 a6 a4 a0 :: Ro.sl (Kd.int .i64) a3 a5 a2 :: rs) ∧ b5 b3 = some c3) 7 (by kernel_rfl) (by kernel_rfl) (by kernel_rfl) ?_ ?_)
 ·refine calls_of_EW (args := [sv a6 a4 a0, .func (.func 50) #[] #[], sv a3 a5 a2]) (c := Cd47) 27 Tryd.func47 (by kernel_rfl) (by kernel_rfl) (by kernel_rfl) ?_
  refine EW.sq (by kernel_rfl) ?_
  refine EW.rg (by kernel_rfl) ?_
  refine EL.quick 1 [0, 1, 2] [(0, sv a6 a4 a0), (1, .func (.func 50) #[] #[]), (2, sv a3 a5 a2)] (by kernel_rfl) ?_
  refine EL.done (by kernel_rfl) ?_
  refine EQ.code ?_
  refine EW.sq (by kernel_rfl) ?_
  refine EW.rg (by kernel_rfl) ?_
  refine EL.quick 1 [0, 1, 2, 7] [(0, sv a6 a4 a0), (1, .func (.func 50) #[] #[]), (2, sv a3 a5 a2), (7, sv none 0 ([] : List S28))] (by kernel_rfl) ?_
  refine EL.done (by kernel_rfl) ?_
  refine EQ.code ?_
  refine EW.sq (by kernel_rfl) ?_
  refine EW.sq (by kernel_rfl) ?_
  refine EW.rg (by kernel_rfl) ?_
  refine EL.quick 3 [1, 2, 7, 10, 11, 12] [(1, .func (.func 50) #[] #[]), (2, sv a3 a5 a2), (7, sv none 0 ([] : List S28)), (10, sv a6 a4 a0), (11, ia (a0.length : Int)), (12, ia 0)] (by kernel_rfl) ?_
  refine EL.done (by kernel_rfl) ?_
  refine EQ.code ?_
  refine EW.bl 0 (by kernel_rfl) ?_
  have hS := St.nilO hS 28 kS28
  refine EW.lp (fun n a w => ∃ a7 : List S28, ∃ a1 : Int, ∃ a8 : Option Addr, ∃ a9 : Nat, Sat 27 [(1, .func (.func 50) #[] #[]), (2, sv a3 a5 a2), (7, sv a8 a9 a7), (10, sv a6 a4 a0), (11, ia (a0.length : Int)), (12, ia a1)] a ∧ St B w (Ass.own 28 kS28 a8 a9 a7 :: os) (Ro.sl kS28 a6 a4 a0 :: Ro.sl (Kd.int .i64) a3 a5 a2 :: rs) ∧ trace_Kinds.l0 K a0 a2 b5 n a7 a1 = some c3) K (by kernel_rfl) ?_ (fun n a w hI => ?_)
  ·refine EQ.keep [1, 2, 7, 10, 11, 12] [(1, .func (.func 50) #[] #[]), (2, sv a3 a5 a2), (7, sv none 0 ([] : List S28)), (10, sv a6 a4 a0), (11, ia (a0.length : Int)), (12, ia 0)] (by kernel_rfl) ?_
   exact fun a ha => ⟨([] : List S28), 0, none, 0, ha, (hS.re [0] [] rfl (sub_cons 0 rfl (sub_cons 1 rfl (sub_tail (sub_tail (sub_self)))))), H⟩
  obtain ⟨a7, a1, a8, a9, ha, hS, H⟩ := hI
  obtain _ | n := n
  ·simp [trace_Kinds.l0] at H
  rw [trace_Kinds.l0.eq_2] at H
  refine EW.at ?_ a ha
  clear ha a
  refine EW.sq (by kernel_rfl) ?_
  refine EW.rg (by kernel_rfl) ?_
  refine EL.quick 1 [1, 2, 7, 10, 11, 12, 13] [(1, .func (.func 50) #[] #[]), (2, sv a3 a5 a2), (7, sv a8 a9 a7), (10, sv a6 a4 a0), (11, ia (a0.length : Int)), (12, ia a1), (13, .bool (decide (a1 < (a0.length : Int))))] (by kernel_rfl) ?_
  refine EL.done (by kernel_rfl) ?_
  refine EQ.code ?_
  refine EW.sq (by kernel_rfl) ?_
  refine EW.cdP (a1 < (a0.length : Int)) (by kernel_rfl) (by kernel_rfl) (fun c1 => ?_) (fun c1 => ?_)
  ·rw [if_pos c1] at H
   refine EW.skip (by kernel_rfl) ?_
   refine EQ.code ?_
   obtain ⟨c6, e0, H⟩ := lt_out H
   refine EW.ct (fun a w => ∃ b0 : List S28, ∃ d3 : Nat, ∃ b8 : Option Addr, ∃ c0 : Nat, Sat 27 [(1, .func (.func 50) #[] #[]), (2, sv a3 a5 a2), (7, sv b8 c0 b0), (10, sv a6 a4 a0), (11, ia (a0.length : Int)), (12, ia a1)] a ∧ St B w (Ass.box 28 d3 (encS28 (a0.getD a1.toNat zS28)) :: Ass.own 28 kS28 b8 c0 b0 :: os) (Ro.sl (Kd.int .i64) a3 a5 a2 :: Ro.sl kS28 a6 a4 a0 :: rs) ∧ c6 b0 = some c3) (by kernel_rfl) ?_ (fun a w hI => ?_)
   ·refine EW.bl 1 (by kernel_rfl) ?_
    refine EW.sq (by kernel_rfl) ?_
    refine EW.rg (by kernel_rfl) ?_
    obtain ⟨c7, H⟩ := ite_in H
    obtain ⟨b2, rfl⟩ := St.rd_some hS (Rd.ro 0 rfl) c7 c1
    refine EL.of (EO.Y (YO.idx 22 7 b2 a0.length a4 .i64 a1 14 (by kernel_rfl) (by kernel_rfl) (by kernel_rfl) (by kernel_rfl) c7 c1) ?_)
    refine EL.of (EO.Y (YO.loadEl hS kS28 b2 a4 a0 (Rd.ro 0 rfl) zS28 encS28 encS28_of a1 c7 c1 28 7 0 7 rfl (ag (encS28 (a0.getD a1.toNat zS28))) 15 (by kernel_rfl) (by kernel_rfl) (by kernel_rfl) (by kernel_rfl)) ?_)
    refine EL.of (EO.alloc hS 28 (ag (encS28 zS28)) (encS28 zS28) 9 (by kernel_rfl) (by kernel_rfl) (by kernel_rfl) (by kernel_rfl) (by first | rfl | kernel_rfl) ?_)
    intro b4 w hS
    refine EL.of (EO.storeBox (os' := Ass.box 28 b4 (encS28 (a0.getD a1.toNat zS28)) :: Ass.own 28 kS28 a8 a9 a7 :: os) hS 0 rfl 28 0 (ag (encS28 (a0.getD a1.toNat zS28))) (encS28 (a0.getD a1.toNat zS28)) (by kernel_rfl) (by kernel_rfl) (by kernel_rfl) (by kernel_rfl) (by kernel_rfl) (by kernel_rfl) rfl rfl ?_)
    intro w hS
    refine EL.done (by kernel_rfl) ?_
    refine EQ.code ?_
    refine EW.sq (by kernel_rfl) ?_
    refine EW.rg (by kernel_rfl) ?_
    refine EL.quick 2 [1, 2, 7, 9, 10, 11, 12, 16, 17] [(1, .func (.func 50) #[] #[]), (2, sv a3 a5 a2), (7, sv a8 a9 a7), (9, pt b4 0), (10, sv (some b2) a4 a0), (11, ia (a0.length : Int)), (12, ia a1), (16, sv a3 a5 a2), (17, .func (.func 50) #[] #[])] (by kernel_rfl) ?_
    refine EL.of (EO.Y (YO.loadBox hS 0 rfl 28 0 7 (ag (encS28 (a0.getD a1.toNat zS28))) 18 (by kernel_rfl) (by kernel_rfl) (by kernel_rfl) (by kernel_rfl)) ?_)
    obtain ⟨c9, d7, H⟩ := b1_out H
    have hq := trace_Kinds_1.calls d7 hS
    refine EL.of (EO.callD 50 [ag (encS28 (a0.getD a1.toNat zS28))] _ 19 (by kernel_rfl) (by kernel_rfl) (by kernel_rfl) hq ?_)
    rintro v w ⟨rfl, hS⟩
    have hS : St B _ (Ass.box 28 b4 (encS28 (a0.getD a1.toNat zS28)) :: Ass.own 28 kS28 a8 a9 a7 :: os) (Ro.sl (Kd.int .i64) a3 a5 a2 :: Ro.sl kS28 (some b2) a4 a0 :: rs) := hS.re [] [] rfl (sub_cons 1 rfl (sub_cons 0 rfl (sub_tail (sub_tail (sub_self)))))
    obtain ⟨d0, d8, H⟩ := b1_out H
    have hq := slices_Contains_int_int.calls d8 hS
    refine EL.of (EO.callD 76 [sv a3 a5 a2, ia c9] _ 20 (by kernel_rfl) (by kernel_rfl) (by kernel_rfl) hq ?_)
    rintro v w ⟨rfl, hS⟩
    refine EL.done (by kernel_rfl) ?_
    refine EQ.code ?_
    refine EW.cdP' (d0) (by kernel_rfl) (by kernel_rfl) (fun c8 => ?_) (fun c8 => ?_)
    ·rw [if_pos c8] at H
     refine EW.rg (by kernel_rfl) ?_
     refine EL.quick 1 [1, 2, 9, 10, 11, 12, 21] [(1, .func (.func 50) #[] #[]), (2, sv a3 a5 a2), (9, pt b4 0), (10, sv (some b2) a4 a0), (11, ia (a0.length : Int)), (12, ia a1), (21, sv a8 a9 a7)] (by kernel_rfl) ?_
     refine EL.of (EO.Y (YO.loadBox hS 0 rfl 28 0 7 (ag (encS28 (a0.getD a1.toNat zS28))) 22 (by kernel_rfl) (by kernel_rfl) (by kernel_rfl) (by kernel_rfl)) ?_)
     obtain ⟨c2, d5, H⟩ := lt_out H
     refine EL.of (EO.lit hS kS28 28 22 1 #[(0, ag (encS28 (a0.getD a1.toNat zS28)))] [ia ((a0.getD a1.toNat zS28).f0), ia ((a0.getD a1.toNat zS28).f1), ia ((a0.getD a1.toNat zS28).f2), ia ((a0.getD a1.toNat zS28).f3), ib ((a0.getD a1.toNat zS28).f4), ib ((a0.getD a1.toNat zS28).f5), ib ((a0.getD a1.toNat zS28).f6)] c2 23 (by kernel_rfl) (by kernel_rfl) (by kernel_rfl) (fun _ => (by kernel_rfl)) (by rw [d5]; rfl) (by kernel_rfl) (fun w G hr => (by rw [d5]; exact ⟨[ia ((a0.getD a1.toNat zS28).f0), ia ((a0.getD a1.toNat zS28).f1), ia ((a0.getD a1.toNat zS28).f2), ia ((a0.getD a1.toNat zS28).f3), ib ((a0.getD a1.toNat zS28).f4), ib ((a0.getD a1.toNat zS28).f5), ib ((a0.getD a1.toNat zS28).f6)], [], rfl, ⟨[ia ((a0.getD a1.toNat zS28).f0)], [ia ((a0.getD a1.toNat zS28).f1), ia ((a0.getD a1.toNat zS28).f2), ia ((a0.getD a1.toNat zS28).f3), ib ((a0.getD a1.toNat zS28).f4), ib ((a0.getD a1.toNat zS28).f5), ib ((a0.getD a1.toNat zS28).f6)], rfl, rfl, ⟨[ia ((a0.getD a1.toNat zS28).f1)], [ia ((a0.getD a1.toNat zS28).f2), ia ((a0.getD a1.toNat zS28).f3), ib ((a0.getD a1.toNat zS28).f4), ib ((a0.getD a1.toNat zS28).f5), ib ((a0.getD a1.toNat zS28).f6)], rfl, rfl, ⟨[ia ((a0.getD a1.toNat zS28).f2)], [ia ((a0.getD a1.toNat zS28).f3), ib ((a0.getD a1.toNat zS28).f4), ib ((a0.getD a1.toNat zS28).f5), ib ((a0.getD a1.toNat zS28).f6)], rfl, rfl, ⟨[ia ((a0.getD a1.toNat zS28).f3)], [ib ((a0.getD a1.toNat zS28).f4), ib ((a0.getD a1.toNat zS28).f5), ib ((a0.getD a1.toNat zS28).f6)], rfl, rfl, ⟨[ib ((a0.getD a1.toNat zS28).f4)], [ib ((a0.getD a1.toNat zS28).f5), ib ((a0.getD a1.toNat zS28).f6)], rfl, rfl, ⟨[ib ((a0.getD a1.toNat zS28).f5)], [ib ((a0.getD a1.toNat zS28).f6)], rfl, rfl, ⟨[ib ((a0.getD a1.toNat zS28).f6)], [], rfl, rfl, rfl⟩⟩⟩⟩⟩⟩⟩, rfl⟩)) ?_)
     intro d4 w hS
     obtain ⟨d6, H⟩ := ite_in H
     obtain ⟨b6, e1, H⟩ := lt_out H
     refine EL.of (EO.append hS 22 22 28 48 2 kS28 a8 a9 a7 rfl (some ⟨d4, 0, none⟩) 1 c2 (Rd.own 0 28 rfl) b6 e1 (fun c4 c5 => Ass.own 28 kS28 (some ⟨d4, 0, none⟩) 1 c2 :: Ass.box 28 b4 (encS28 (a0.getD a1.toNat zS28)) :: Ass.own 28 kS28 c4 c5 b6 :: os) 24 (by kernel_rfl) (by kernel_rfl) (by kernel_rfl) (by kernel_rfl) d6 (fun _ _ => rfl) ?_)
     intro c4 c5 w hS
     refine EL.quick 1 [1, 2, 7, 10, 11, 12] [(1, .func (.func 50) #[] #[]), (2, sv a3 a5 a2), (7, sv c4 c5 b6), (10, sv (some b2) a4 a0), (11, ia (a0.length : Int)), (12, ia a1)] (by kernel_rfl) ?_
     refine EL.done (by kernel_rfl) ?_
     refine EQ.pop ?_
     refine EQ.to ?_
     refine EQ.keep [1, 2, 7, 10, 11, 12] [(1, .func (.func 50) #[] #[]), (2, sv a3 a5 a2), (7, sv c4 c5 b6), (10, sv (some b2) a4 a0), (11, ia (a0.length : Int)), (12, ia a1)] (by kernel_rfl) ?_
     exact fun a ha => ⟨b6, b4, c4, c5, ha, (hS.re [2, 2] [2] rfl (sub_cons 0 rfl (sub_cons 1 rfl (sub_tail (sub_tail (sub_self)))))), H⟩
    rw [if_neg c8] at H
    refine EW.skip (by kernel_rfl) ?_
    refine EQ.pop ?_
    refine EQ.to ?_
    refine EQ.keep [1, 2, 7, 10, 11, 12] [(1, .func (.func 50) #[] #[]), (2, sv a3 a5 a2), (7, sv a8 a9 a7), (10, sv (some b2) a4 a0), (11, ia (a0.length : Int)), (12, ia a1)] (by kernel_rfl) ?_
    exact fun a ha => ⟨a7, b4, a8, a9, ha, (hS.re [1, 1] [] rfl (sub_cons 0 rfl (sub_cons 1 rfl (sub_tail (sub_tail (sub_self)))))), H⟩
   obtain ⟨b0, d3, b8, c0, ha, hS, H⟩ := hI
   rw [e0] at H
   (try dsimp only at H)
   refine EW.at ?_ a ha
   clear ha a
   refine EW.rg (by kernel_rfl) ?_
   refine EL.quick 2 [1, 2, 7, 10, 11, 12] [(1, .func (.func 50) #[] #[]), (2, sv a3 a5 a2), (7, sv b8 c0 b0), (10, sv a6 a4 a0), (11, ia (a0.length : Int)), (12, ia (IntKind.i64.wrap (a1 + 1)))] (by kernel_rfl) ?_
   refine EL.done (by kernel_rfl) ?_
   refine EQ.to ?_
   refine EQ.keep [1, 2, 7, 10, 11, 12] [(1, .func (.func 50) #[] #[]), (2, sv a3 a5 a2), (7, sv b8 c0 b0), (10, sv a6 a4 a0), (11, ia (a0.length : Int)), (12, ia (IntKind.i64.wrap (a1 + 1)))] (by kernel_rfl) ?_
   exact fun a ha => ⟨n, Nat.lt_succ_self n, b0, IntKind.i64.wrap (a1 + 1), b8, c0, ha, (hS.re [1] [1] rfl (sub_cons 1 rfl (sub_cons 0 rfl (sub_tail (sub_tail (sub_self)))))), H⟩
  rw [if_neg c1] at H
  refine EW.exit (id := 0) (by kernel_rfl) ?_
  refine EQ.exitCode ?_
  refine EQ.exitTo ?_
  refine EQ.exitHere ?_
  refine EQ.code ?_
  refine EW.sq (by kernel_rfl) ?_
  refine EW.rg (by kernel_rfl) ?_
  refine EL.quick 2 [6] [(6, sv a8 a9 a7)] (by kernel_rfl) ?_
  refine EL.done (by kernel_rfl) ?_
  refine EQ.code ?_
  refine EW.ret (by kernel_rfl) ?_
  exact EQ.leave (sv a8 a9 a7) (by kernel_rfl) ⟨_, rfl, a7, a8, a9, rfl, (hS.re [0] [] rfl (sub_cons 0 rfl (sub_cons 1 rfl (sub_tail (sub_tail (sub_self)))))), H⟩
 ·rintro v w ⟨b3, b7, b9, rfl, hS, H⟩
  rw [d9] at H
  (try dsimp only at H)
  refine EL.quick 1 [4] [(4, sv b7 b9 b3)] (by kernel_rfl) ?_
  refine EL.done (by kernel_rfl) ?_
  refine EQ.code ?_
  refine EW.ret (by kernel_rfl) ?_
  obtain rfl := Option.some.inj H
  exact EQ.leave (sv b7 b9 b3) (by kernel_rfl) ⟨_, rfl, b7, b9, rfl, (hS.re [0] [] rfl (sub_self))⟩

end Go.Proofs.YtocdpimpkifdmaaDoor.G
