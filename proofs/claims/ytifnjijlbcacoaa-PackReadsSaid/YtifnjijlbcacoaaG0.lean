import Derived.Test.YtifnjijlbcacoaaProg
import Derived.Test.YtifnjijlbcacoaaFwEq
import Derived.Test.YtifnjijlbcacoaaFwOpen
namespace Go.Proofs.Ytifnjijlbcacoaa.G
open Go Go.Fw Go.RowKit Go.Proofs
set_option linter.unusedVariables false
set_option linter.unusedSimpArgs false

noncomputable def Cd3 : Code := bodyOf Try.f3

noncomputable def Cd13 : Code := bodyOf Try.f13

noncomputable def Cd14 : Code := bodyOf Try.f14

noncomputable def Cd15 : Code := bodyOf Try.f15

noncomputable def Cd16 : Code := bodyOf Try.f16

noncomputable def Cd17 : Code := bodyOf Try.f17

noncomputable def Cd18 : Code := bodyOf Try.f18

noncomputable def Cd44 : Code := bodyOf Try.f44

noncomputable def Cd45 : Code := bodyOf Try.f45

noncomputable def Cd46 : Code := bodyOf Try.f46

noncomputable def Cd47 : Code := bodyOf Try.f47

noncomputable def Cd57 : Code := bodyOf Try.f57

noncomputable def Cd58 : Code := bodyOf Try.f58

noncomputable def Cd62 : Code := bodyOf Try.f62

/-! ### slices.Clone[[]byte,byte]: function 44 -/
def slices_Clone_byte_byte.f (K : Nat) (l21 : List Int) : Option (List Int) := lt ([] : List Int) fun l52 => (if (l52.length + l21.length) * 1 ≤ 140737488355328 then (lt (l52 ++ l21) fun l54 => (some l54)) else none)
set_option maxRecDepth 100000 in
theorem slices_Clone_byte_byte.calls {K : Nat} {l21 : List Int} {A22 : Option Addr} {C23 : Nat} {x38 : List Int} {B w : World} {os : List Ass} {rs : List Ro} (H : slices_Clone_byte_byte.f K l21 = some x38) (hS : St B w (os) (Ro.sl (Kd.int .u8) A22 C23 l21 :: rs)) :
    Calls Try.prog 44 [.slice A22 l21.length C23].toArray w (fun en w' => ∃ v, en = .returned v ∧ ∃ A39 : Option Addr, ∃ C40 : Nat, v = .slice A39 x38.length C40 ∧ St B w' (Ass.own 5 (Kd.int .u8) A39 C40 x38 :: os) (Ro.sl (Kd.int .u8) A22 C23 l21 :: rs)) := by
  unfold slices_Clone_byte_byte.f at H
  refine calls_of_EW (args := [.slice A22 l21.length C23]) (c := Cd44) 8 Try.func44 (by kernel_rfl) (by kernel_rfl) (by kernel_rfl) ?_
  refine EW.seq (x := Cd44.l) (y := Cd44.r) (by kernel_rfl) ?_
  refine EW.region (id := 0) (ops := Cd44.l.ops) (by kernel_rfl) ?_
  refine EL.quick 1 [0] [(0, .slice A22 l21.length C23)] (by kernel_rfl) ?_
  refine EL.done (by kernel_rfl) ?_
  refine EQ.code ?_
  refine EW.seq (x := Cd44.r.l) (y := Cd44.r.r) (by kernel_rfl) ?_
  refine EW.seq (x := Cd44.r.l.l) (y := Cd44.r.l.r) (by kernel_rfl) ?_
  refine EW.region (id := 1) (ops := Cd44.r.l.l.ops) (by kernel_rfl) ?_
  refine EL.quick 1 [0, 3] [(0, .slice A22 l21.length C23), (3, .slice A22 l21.length C23)] (by kernel_rfl) ?_
  rcases A22 with _ | ad49
  · have h50 := St.rd_nil hS (Rd.ro 0 rfl)
    have H : (some ([] : List Int)) = some x38 := by simpa [lt, h50] using H
    refine EL.quick 1 [0, 4] [(0, .slice none l21.length C23), (4, .bool (true))] (by kernel_rfl) ?_
    refine EL.done (by kernel_rfl) ?_
    refine EQ.code ?_
    refine EW.condT (o := (.tmp 4)) (x := Cd44.r.l.r.l) (y := Cd44.r.l.r.r) (by kernel_rfl) (by kernel_rfl) ?_
    refine EW.seq (x := Cd44.r.l.r.l.l) (y := Cd44.r.l.r.l.r) (by kernel_rfl) ?_
    refine EW.region (id := 2) (ops := Cd44.r.l.r.l.l.ops) (by kernel_rfl) ?_
    refine EL.quick 1 [2] [(2, .slice none ([] : List Int).length 0)] (by kernel_rfl) ?_
    refine EL.done (by kernel_rfl) ?_
    refine EQ.code ?_
    refine EW.ret (by kernel_rfl) ?_
    refine EQ.ret ?_
    have hS := St.nilO hS 5 (Kd.int .u8)
    obtain rfl := Option.some.inj H
    exact EQ.leave (.slice none ([] : List Int).length 0) (by kernel_rfl) ⟨_, rfl, none, 0, rfl, (hS.re [0] [] rfl (sub_self))⟩
  · refine EL.quick 1 [0, 4] [(0, .slice (some ad49) l21.length C23), (4, .bool (false))] (by kernel_rfl) ?_
    refine EL.done (by kernel_rfl) ?_
    refine EQ.code ?_
    refine EW.condF (o := (.tmp 4)) (x := Cd44.r.l.r.l) (y := Cd44.r.l.r.r) (by kernel_rfl) (by kernel_rfl) ?_
    refine EW.skip (by kernel_rfl) ?_
    refine EQ.code ?_
    refine EW.seq (x := Cd44.r.r.l) (y := Cd44.r.r.r) (by kernel_rfl) ?_
    refine EW.region (id := 3) (ops := Cd44.r.r.l.ops) (by kernel_rfl) ?_
    obtain ⟨l52, hl52, H⟩ := lt_out H
    refine EL.of (EO.lit hS (Kd.int .u8) 5 22 0 #[] [] l52 5 (by kernel_rfl) (by kernel_rfl) (by kernel_rfl) (fun _ => (by kernel_rfl)) (by rw [hl52]; rfl) (by kernel_rfl) (fun w G hr => (by rw [hl52]; exact rfl)) ?_)
    intro g51 w hS
    refine EL.quick 1 [5, 6] [(5, .slice (some ⟨g51, 0, none⟩) l52.length 0), (6, .slice (some ad49) l21.length C23)] (by kernel_rfl) ?_
    obtain ⟨h53, H⟩ := ite_in H
    obtain ⟨l54, hl54, H⟩ := lt_out H
    refine EL.of (EO.append hS 22 22 5 1 0 (Kd.int .u8) (some ⟨g51, 0, none⟩) 0 l52 rfl (some ad49) C23 l21 (Rd.ro 0 rfl) l54 hl54 (fun A55 C56 => Ass.own 5 (Kd.int .u8) A55 C56 l54 :: os) 7 (by kernel_rfl) (by kernel_rfl) (by kernel_rfl) (by kernel_rfl) h53 (fun _ _ => rfl) ?_)
    intro A55 C56 w hS
    refine EL.quick 1 [2] [(2, .slice A55 l54.length C56)] (by kernel_rfl) ?_
    refine EL.done (by kernel_rfl) ?_
    refine EQ.code ?_
    refine EW.ret (by kernel_rfl) ?_
    obtain rfl := Option.some.inj H
    exact EQ.leave (.slice A55 l54.length C56) (by kernel_rfl) ⟨_, rfl, A55, C56, rfl, (hS.re [0] [] rfl (sub_self))⟩

/-! ### confidant/rng.New: function 45 -/
def rng_New.f (K : Nat) (a61 : Int) : Option Int := some (mx a61 1)
set_option maxRecDepth 100000 in
theorem rng_New.calls {K : Nat} {a61 : Int} {x64 : Int} {B w : World} {os : List Ass} {rs : List Ro} (H : rng_New.f K a61 = some x64) (hS : St B w (os) (rs)) :
    Calls Try.prog 45 [.int .u64 a61].toArray w (fun en w' => ∃ v, en = .returned v ∧ ∃ g63 : Nat, v = .pointer (some ⟨g63, 0, none⟩) ∧ St B w' (Ass.box 103 g63 [.int .u64 x64] :: os) (rs)) := by
  unfold rng_New.f at H
  refine calls_of_EW (args := [.int .u64 a61]) (c := Cd45) 7 Try.func45 (by kernel_rfl) (by kernel_rfl) (by kernel_rfl) ?_
  refine EW.seq (x := Cd45.l) (y := Cd45.r) (by kernel_rfl) ?_
  refine EW.region (id := 0) (ops := Cd45.l.ops) (by kernel_rfl) ?_
  refine EL.quick 1 [0] [(0, .int .u64 a61)] (by kernel_rfl) ?_
  refine EL.done (by kernel_rfl) ?_
  refine EQ.code ?_
  refine EW.seq (x := Cd45.r.l) (y := Cd45.r.r) (by kernel_rfl) ?_
  refine EW.region (id := 1) (ops := Cd45.r.l.ops) (by kernel_rfl) ?_
  refine EL.quick 3 [5] [(5, .agg #[.int .u64 (mx a61 1)])] (by kernel_rfl) ?_
  refine EL.of (EO.box hS 103 (.agg #[.int .u64 (mx a61 1)]) [.int .u64 (mx a61 1)] 6 (by kernel_rfl) (by kernel_rfl) (by kernel_rfl) (by first | rfl | kernel_rfl) ?_)
  intro g65 w hS
  refine EL.quick 1 [2] [(2, .pointer (some ⟨g65, 0, none⟩))] (by kernel_rfl) ?_
  refine EL.done (by kernel_rfl) ?_
  refine EQ.code ?_
  refine EW.ret (by kernel_rfl) ?_
  obtain rfl := Option.some.inj H
  exact EQ.leave (.pointer (some ⟨g65, 0, none⟩)) (by kernel_rfl) ⟨_, rfl, g65, rfl, (hS.re [0] [] rfl (sub_self))⟩

/-! ### confidant/picks.New: function 14 -/
def picks_New.f (K : Nat) (l17 : List Int) (a20 : Int) : Option (List Int × Int) := b1 (slices_Clone_byte_byte.f K l17) fun (t76 : List Int) => (b1 (rng_New.f K a20) fun (t80 : Int) => (some (t76, t80)))
set_option maxRecDepth 100000 in
theorem picks_New.calls {K : Nat} {l17 : List Int} {a20 : Int} {A18 : Option Addr} {C19 : Nat} {x72 : List Int} {x75 : Int} {B w : World} {os : List Ass} {rs : List Ro} (H : picks_New.f K l17 a20 = some (x72, x75)) (hS : St B w (os) (Ro.sl (Kd.int .u8) A18 C19 l17 :: rs)) :
    Calls Try.prog 14 [.slice A18 l17.length C19, .int .u64 a20].toArray w (fun en w' => ∃ v, en = .returned v ∧ ∃ g70 : Nat, ∃ g71 : Nat, ∃ A73 : Option Addr, ∃ C74 : Nat, v = .pointer (some ⟨g70, 0, none⟩) ∧ St B w' (Ass.box 89 g70 [.slice A73 x72.length C74, .func (.func 46) #[.pointer (some ⟨g71, 0, none⟩)] #[]] :: Ass.box 103 g71 [.int .u64 x75] :: Ass.own 5 (Kd.int .u8) A73 C74 x72 :: os) (Ro.sl (Kd.int .u8) A18 C19 l17 :: rs)) := by
  unfold picks_New.f at H
  refine calls_of_EW (args := [.slice A18 l17.length C19, .int .u64 a20]) (c := Cd14) 12 Try.func14 (by kernel_rfl) (by kernel_rfl) (by kernel_rfl) ?_
  refine EW.seq (x := Cd14.l) (y := Cd14.r) (by kernel_rfl) ?_
  refine EW.region (id := 0) (ops := Cd14.l.ops) (by kernel_rfl) ?_
  refine EL.quick 1 [0, 1] [(0, .slice A18 l17.length C19), (1, .int .u64 a20)] (by kernel_rfl) ?_
  refine EL.done (by kernel_rfl) ?_
  refine EQ.code ?_
  refine EW.seq (x := Cd14.r.l) (y := Cd14.r.r) (by kernel_rfl) ?_
  refine EW.region (id := 1) (ops := Cd14.r.l.ops) (by kernel_rfl) ?_
  refine EL.quick 1 [1, 5] [(1, .int .u64 a20), (5, .slice A18 l17.length C19)] (by kernel_rfl) ?_
  have hS : St B _ (os) (Ro.sl (Kd.int .u8) A18 C19 l17 :: Ro.sl (Kd.int .u8) A18 C19 l17 :: rs) := hS.re [] [] rfl (sub_cons 0 rfl sub_self)
  obtain ⟨t76, hc79, H⟩ := b1_out H
  refine EL.of (EO.callD 44 [.slice A18 l17.length C19] _ 6 (by kernel_rfl) (by kernel_rfl) (by kernel_rfl) (slices_Clone_byte_byte.calls hc79 hS) ?_)
  rintro v w ⟨A77, C78, rfl, hS⟩
  refine EL.quick 1 [6, 7] [(6, .slice A77 t76.length C78), (7, .int .u64 a20)] (by kernel_rfl) ?_
  obtain ⟨t80, hc82, H⟩ := b1_out H
  refine EL.of (EO.callD 45 [.int .u64 a20] _ 8 (by kernel_rfl) (by kernel_rfl) (by kernel_rfl) (rng_New.calls hc82 hS) ?_)
  rintro v w ⟨g81, rfl, hS⟩
  refine EL.quick 2 [10] [(10, .agg #[.slice A77 t76.length C78, .func (.func 46) #[.pointer (some ⟨g81, 0, none⟩)] #[]])] (by kernel_rfl) ?_
  refine EL.of (EO.box hS 89 (.agg #[.slice A77 t76.length C78, .func (.func 46) #[.pointer (some ⟨g81, 0, none⟩)] #[]]) [.slice A77 t76.length C78, .func (.func 46) #[.pointer (some ⟨g81, 0, none⟩)] #[]] 11 (by kernel_rfl) (by kernel_rfl) (by kernel_rfl) (by first | rfl | kernel_rfl) ?_)
  intro g83 w hS
  refine EL.quick 1 [4] [(4, .pointer (some ⟨g83, 0, none⟩))] (by kernel_rfl) ?_
  refine EL.done (by kernel_rfl) ?_
  refine EQ.code ?_
  refine EW.ret (by kernel_rfl) ?_
  simp only [Option.some.injEq, Prod.mk.injEq] at H
  obtain ⟨rfl, rfl⟩ := H
  exact EQ.leave (.pointer (some ⟨g83, 0, none⟩)) (by kernel_rfl) ⟨_, rfl, g83, g81, A77, C78, rfl, (hS.re [2, 2, 2] [] rfl (sub_tail (sub_self)))⟩

/-! ### confidant/rng.Step: function 62 -/
def rng_Step.f (K : Nat) (a120 : Int) : Option Int := lt (bX .u64 (bX .u64 a120 (sL .u64 a120 13)) (sR .u64 (bX .u64 a120 (sL .u64 a120 13)) 7)) fun y125 => (some (bX .u64 y125 (sL .u64 y125 17)))
set_option maxRecDepth 100000 in
theorem rng_Step.calls {K : Nat} {a120 : Int} {x123 : Int} {B w : World} {os : List Ass} {rs : List Ro} (H : rng_Step.f K a120 = some x123) (hS : St B w (os) (rs)) :
    Calls Try.prog 62 [.int .u64 a120].toArray w (fun en w' => ∃ v, en = .returned v ∧ v = .int .u64 x123 ∧ St B w' (os) (rs)) := by
  unfold rng_Step.f at H
  refine calls_of_EW (args := [.int .u64 a120]) (c := Cd62) 15 Try.func62 (by kernel_rfl) (by kernel_rfl) (by kernel_rfl) ?_
  refine EW.seq (x := Cd62.l) (y := Cd62.r) (by kernel_rfl) ?_
  refine EW.region (id := 0) (ops := Cd62.l.ops) (by kernel_rfl) ?_
  refine EL.quick 1 [0] [(0, .int .u64 a120)] (by kernel_rfl) ?_
  refine EL.done (by kernel_rfl) ?_
  refine EQ.code ?_
  refine EW.seq (x := Cd62.r.l) (y := Cd62.r.r) (by kernel_rfl) ?_
  refine EW.region (id := 1) (ops := Cd62.r.l.ops) (by kernel_rfl) ?_
  refine EL.quick 5 [0] [(0, .int .u64 (bX .u64 a120 (sL .u64 a120 13)))] (by kernel_rfl) ?_
  refine EL.done (by kernel_rfl) ?_
  refine EQ.code ?_
  refine EW.seq (x := Cd62.r.r.l) (y := Cd62.r.r.r) (by kernel_rfl) ?_
  refine EW.region (id := 2) (ops := Cd62.r.r.l.ops) (by kernel_rfl) ?_
  refine EL.quick 5 [0] [(0, .int .u64 (bX .u64 (bX .u64 a120 (sL .u64 a120 13)) (sR .u64 (bX .u64 a120 (sL .u64 a120 13)) 7)))] (by kernel_rfl) ?_
  obtain ⟨y125, hy125, H⟩ := lt_out H
  refine EL.keep [0] [(0, .int .u64 (bX .u64 (bX .u64 a120 (sL .u64 a120 13)) (sR .u64 (bX .u64 a120 (sL .u64 a120 13)) 7)))] (by kernel_rfl) ?_
  refine EL.as' [(0, .int .u64 y125)] (by subst hy125; rfl) ?_
  refine EL.done (by kernel_rfl) ?_
  refine EQ.code ?_
  refine EW.seq (x := Cd62.r.r.r.l) (y := Cd62.r.r.r.r) (by kernel_rfl) ?_
  refine EW.region (id := 3) (ops := Cd62.r.r.r.l.ops) (by kernel_rfl) ?_
  refine EL.quick 5 [2] [(2, .int .u64 (bX .u64 y125 (sL .u64 y125 17)))] (by kernel_rfl) ?_
  refine EL.done (by kernel_rfl) ?_
  refine EQ.code ?_
  refine EW.ret (by kernel_rfl) ?_
  obtain rfl := Option.some.inj H
  exact EQ.leave (.int .u64 (bX .u64 y125 (sL .u64 y125 17))) (by kernel_rfl) ⟨_, rfl, rfl, (hS.re [] [] rfl (sub_self))⟩

/-! ### (*confidant/rng.Rng).Next: function 57 -/
def rng_Rng_Next.f (K : Nat) (a119 : Int) : Option (Int × Int) := b1 (rng_Step.f K a119) fun (t134 : Int) => (some (t134, t134))
set_option maxRecDepth 100000 in
theorem rng_Rng_Next.calls {K : Nat} {a119 : Int} {g118 : Nat} {x130 : Int} {x131 : Int} {B w : World} {os : List Ass} {rs : List Ro} (H : rng_Rng_Next.f K a119 = some (x130, x131)) (hS : St B w (Ass.box 103 g118 [.int .u64 a119] :: os) (rs)) :
    Calls Try.prog 57 [.pointer (some ⟨g118, 0, none⟩)].toArray w (fun en w' => ∃ v, en = .returned v ∧ v = .int .u64 x131 ∧ St B w' (Ass.box 103 g118 [.int .u64 x130] :: os) (rs)) := by
  unfold rng_Rng_Next.f at H
  refine calls_of_EW (args := [.pointer (some ⟨g118, 0, none⟩)]) (c := Cd57) 15 Try.func57 (by kernel_rfl) (by kernel_rfl) (by kernel_rfl) ?_
  refine EW.seq (x := Cd57.l) (y := Cd57.r) (by kernel_rfl) ?_
  refine EW.region (id := 0) (ops := Cd57.l.ops) (by kernel_rfl) ?_
  refine EL.quick 1 [0] [(0, .pointer (some ⟨g118, 0, none⟩))] (by kernel_rfl) ?_
  refine EL.done (by kernel_rfl) ?_
  refine EQ.code ?_
  refine EW.seq (x := Cd57.r.l) (y := Cd57.r.r) (by kernel_rfl) ?_
  refine EW.region (id := 1) (ops := Cd57.r.l.ops) (by kernel_rfl) ?_
  refine EL.quick 4 [0, 3, 6] [(0, .pointer (some ⟨g118, 0, none⟩)), (3, .pointer (some ⟨g118, 0, none⟩)), (6, .pointer (some ⟨g118, 0, none⟩))] (by kernel_rfl) ?_
  refine EL.of (EO.Y (YO.loadBox hS 0 rfl 23 0 1 (.int .u64 a119) 7 (by kernel_rfl) (by kernel_rfl) (by kernel_rfl) (by kernel_rfl)) ?_)
  obtain ⟨t134, hc135, H⟩ := b1_out H
  refine EL.of (EO.callD 62 [.int .u64 a119] _ 8 (by kernel_rfl) (by kernel_rfl) (by kernel_rfl) (rng_Step.calls hc135 hS) ?_)
  rintro v w ⟨rfl, hS⟩
  refine EL.quick 2 [0, 8, 10] [(0, .pointer (some ⟨g118, 0, none⟩)), (8, .int .u64 t134), (10, .pointer (some ⟨g118, 0, none⟩))] (by kernel_rfl) ?_
  refine EL.of (EO.storeBox (os' := Ass.box 103 g118 [.int .u64 t134] :: os) hS 0 rfl 23 0 (.int .u64 t134) [.int .u64 t134] (by kernel_rfl) (by kernel_rfl) (by kernel_rfl) (by kernel_rfl) (by kernel_rfl) (by kernel_rfl) rfl rfl ?_)
  intro w hS
  refine EL.done (by kernel_rfl) ?_
  refine EQ.code ?_
  refine EW.seq (x := Cd57.r.r.l) (y := Cd57.r.r.r) (by kernel_rfl) ?_
  refine EW.region (id := 2) (ops := Cd57.r.r.l.ops) (by kernel_rfl) ?_
  refine EL.quick 3 [13] [(13, .pointer (some ⟨g118, 0, none⟩))] (by kernel_rfl) ?_
  refine EL.of (EO.Y (YO.loadBox hS 0 rfl 23 0 1 (.int .u64 t134) 14 (by kernel_rfl) (by kernel_rfl) (by kernel_rfl) (by kernel_rfl)) ?_)
  refine EL.quick 1 [2] [(2, .int .u64 t134)] (by kernel_rfl) ?_
  refine EL.done (by kernel_rfl) ?_
  refine EQ.code ?_
  refine EW.ret (by kernel_rfl) ?_
  simp only [Option.some.injEq, Prod.mk.injEq] at H
  obtain ⟨rfl, rfl⟩ := H
  exact EQ.leave (.int .u64 t134) (by kernel_rfl) ⟨_, rfl, rfl, (hS.re [0] [] rfl (sub_self))⟩

/-! ### (*confidant/rng.Rng).Below: function 46 -/
def rng_Rng_Below.f (K : Nat) (a113 : Int) (a114 : Int) : Option (Int × Int) := if a114 < 1 then (some (a113, 0)) else (b2 (rng_Rng_Next.f K a113) fun (t144 : Int) (t145 : Int) => (if (IntKind.u64.wrap a114) = 0 then none else (some (t144, IntKind.i64.wrap (Int.tmod t145 (IntKind.u64.wrap a114))))))
set_option maxRecDepth 100000 in
theorem rng_Rng_Below.calls {K : Nat} {a113 : Int} {a114 : Int} {g112 : Nat} {x140 : Int} {x141 : Int} {B w : World} {os : List Ass} {rs : List Ro} (H : rng_Rng_Below.f K a113 a114 = some (x140, x141)) (hS : St B w (Ass.box 103 g112 [.int .u64 a113] :: os) (rs)) :
    Calls Try.prog 46 [.pointer (some ⟨g112, 0, none⟩), .int .i64 a114].toArray w (fun en w' => ∃ v, en = .returned v ∧ v = .int .i64 x141 ∧ St B w' (Ass.box 103 g112 [.int .u64 x140] :: os) (rs)) := by
  unfold rng_Rng_Below.f at H
  refine calls_of_EW (args := [.pointer (some ⟨g112, 0, none⟩), .int .i64 a114]) (c := Cd46) 13 Try.func46 (by kernel_rfl) (by kernel_rfl) (by kernel_rfl) ?_
  refine EW.seq (x := Cd46.l) (y := Cd46.r) (by kernel_rfl) ?_
  refine EW.region (id := 0) (ops := Cd46.l.ops) (by kernel_rfl) ?_
  refine EL.quick 1 [0, 1] [(0, .pointer (some ⟨g112, 0, none⟩)), (1, .int .i64 a114)] (by kernel_rfl) ?_
  refine EL.done (by kernel_rfl) ?_
  refine EQ.code ?_
  refine EW.seq (x := Cd46.r.l) (y := Cd46.r.r) (by kernel_rfl) ?_
  refine EW.seq (x := Cd46.r.l.l) (y := Cd46.r.l.r) (by kernel_rfl) ?_
  refine EW.region (id := 1) (ops := Cd46.r.l.l.ops) (by kernel_rfl) ?_
  refine EL.quick 2 [0, 1, 6] [(0, .pointer (some ⟨g112, 0, none⟩)), (1, .int .i64 a114), (6, .bool (decide (a114 < 1)))] (by kernel_rfl) ?_
  refine EL.done (by kernel_rfl) ?_
  refine EQ.code ?_
  refine EW.condP (o := (.tmp 6)) (x := Cd46.r.l.r.l) (y := Cd46.r.l.r.r) (a114 < 1) (by kernel_rfl) (by kernel_rfl) (fun h143 => ?_) (fun h143 => ?_)
  · rw [if_pos h143] at H
    refine EW.seq (x := Cd46.r.l.r.l.l) (y := Cd46.r.l.r.l.r) (by kernel_rfl) ?_
    refine EW.region (id := 2) (ops := Cd46.r.l.r.l.l.ops) (by kernel_rfl) ?_
    refine EL.quick 1 [4] [(4, .int .i64 0)] (by kernel_rfl) ?_
    refine EL.done (by kernel_rfl) ?_
    refine EQ.code ?_
    refine EW.ret (by kernel_rfl) ?_
    refine EQ.ret ?_
    simp only [Option.some.injEq, Prod.mk.injEq] at H
    obtain ⟨rfl, rfl⟩ := H
    exact EQ.leave (.int .i64 0) (by kernel_rfl) ⟨_, rfl, rfl, (hS.re [0] [] rfl (sub_self))⟩
  · rw [if_neg h143] at H
    refine EW.skip (by kernel_rfl) ?_
    refine EQ.code ?_
    refine EW.seq (x := Cd46.r.r.l) (y := Cd46.r.r.r) (by kernel_rfl) ?_
    refine EW.region (id := 3) (ops := Cd46.r.r.l.ops) (by kernel_rfl) ?_
    refine EL.quick 1 [1, 7] [(1, .int .i64 a114), (7, .pointer (some ⟨g112, 0, none⟩))] (by kernel_rfl) ?_
    obtain ⟨t144, t145, hc146, H⟩ := b2_out H
    refine EL.of (EO.callD 57 [.pointer (some ⟨g112, 0, none⟩)] _ 8 (by kernel_rfl) (by kernel_rfl) (by kernel_rfl) (rng_Rng_Next.calls hc146 hS) ?_)
    rintro v w ⟨rfl, hS⟩
    refine EL.quick 2 [8, 10] [(8, .int .u64 t145), (10, .int .u64 (IntKind.u64.wrap a114))] (by kernel_rfl) ?_
    obtain ⟨h147, H⟩ := ite_out H
    refine EL.of (EO.Y (YO.div .rem .u64 t145 (IntKind.u64.wrap a114) (Int.tmod t145 (IntKind.u64.wrap a114)) 11 (by kernel_rfl) (by kernel_rfl) (by kernel_rfl) h147 (by first | exact .inl ⟨rfl, rfl⟩ | exact .inr ⟨rfl, rfl⟩)) ?_)
    refine EL.quick 2 [4] [(4, .int .i64 (IntKind.i64.wrap (Int.tmod t145 (IntKind.u64.wrap a114))))] (by kernel_rfl) ?_
    refine EL.done (by kernel_rfl) ?_
    refine EQ.code ?_
    refine EW.ret (by kernel_rfl) ?_
    simp only [Option.some.injEq, Prod.mk.injEq] at H
    obtain ⟨rfl, rfl⟩ := H
    exact EQ.leave (.int .i64 (IntKind.i64.wrap (Int.tmod t145 (IntKind.u64.wrap a114)))) (by kernel_rfl) ⟨_, rfl, rfl, (hS.re [0] [] rfl (sub_self))⟩

/-! ### (*confidant/picks.Picks).Next: function 16 -/
def picks_Picks_Next.f (K : Nat) (l102 : List Int) (a108 : Int) (a109 : Int) : Option (Int × List Int × Int) := if (l102.length : Int) = 0 then (b2 (rng_Rng_Below.f K a108 (mx a109 1)) fun (t178 : Int) (t179 : Int) => (some (t178, l102, t179))) else (if (0 : Int) < (l102.length : Int) then (if (1 : Int) ≤ (l102.length : Int) then (lt (l102.drop 1) fun l190 => (if (mx a109 1) = 0 then none else (some (a108, l190, Int.tmod (IntKind.i64.wrap (l102.getD (0 : Int).toNat 0)) (mx a109 1))))) else none) else none)
set_option maxRecDepth 100000 in
theorem picks_Picks_Next.calls {K : Nat} {l102 : List Int} {a108 : Int} {a109 : Int} {g101 : Nat} {A103 : Option Addr} {C104 : Nat} {g107 : Nat} {x168 : Int} {x169 : List Int} {x172 : Int} {B w : World} {os : List Ass} {rs : List Ro} (H : picks_Picks_Next.f K l102 a108 a109 = some (x168, x169, x172)) (hS : St B w (Ass.box 89 g101 [.slice A103 l102.length C104, .func (.func 46) #[.pointer (some ⟨g107, 0, none⟩)] #[]] :: Ass.own 5 (Kd.int .u8) A103 C104 l102 :: Ass.box 103 g107 [.int .u64 a108] :: os) (rs)) :
    Calls Try.prog 16 [.pointer (some ⟨g101, 0, none⟩), .int .i64 a109].toArray w (fun en w' => ∃ v, en = .returned v ∧ ∃ A170 : Option Addr, ∃ C171 : Nat, v = .int .i64 x172 ∧ St B w' (Ass.box 103 g107 [.int .u64 x168] :: Ass.box 89 g101 [.slice A170 x169.length C171, .func (.func 46) #[.pointer (some ⟨g107, 0, none⟩)] #[]] :: Ass.own 5 (Kd.int .u8) A170 C171 x169 :: os) (rs)) := by
  unfold picks_Picks_Next.f at H
  refine calls_of_EW (args := [.pointer (some ⟨g101, 0, none⟩), .int .i64 a109]) (c := Cd16) 38 Try.func16 (by kernel_rfl) (by kernel_rfl) (by kernel_rfl) ?_
  refine EW.seq (x := Cd16.l) (y := Cd16.r) (by kernel_rfl) ?_
  refine EW.region (id := 0) (ops := Cd16.l.ops) (by kernel_rfl) ?_
  refine EL.quick 1 [0, 1] [(0, .pointer (some ⟨g101, 0, none⟩)), (1, .int .i64 a109)] (by kernel_rfl) ?_
  refine EL.done (by kernel_rfl) ?_
  refine EQ.code ?_
  refine EW.seq (x := Cd16.r.l) (y := Cd16.r.r) (by kernel_rfl) ?_
  refine EW.region (id := 1) (ops := Cd16.r.l.ops) (by kernel_rfl) ?_
  refine EL.quick 3 [0, 1] [(0, .pointer (some ⟨g101, 0, none⟩)), (1, .int .i64 (mx a109 1))] (by kernel_rfl) ?_
  refine EL.done (by kernel_rfl) ?_
  refine EQ.code ?_
  refine EW.seq (x := Cd16.r.r.l) (y := Cd16.r.r.r) (by kernel_rfl) ?_
  refine EW.seq (x := Cd16.r.r.l.l) (y := Cd16.r.r.l.r) (by kernel_rfl) ?_
  refine EW.region (id := 2) (ops := Cd16.r.r.l.l.ops) (by kernel_rfl) ?_
  refine EL.quick 3 [0, 1, 10] [(0, .pointer (some ⟨g101, 0, none⟩)), (1, .int .i64 (mx a109 1)), (10, .pointer (some ⟨g101, 0, none⟩))] (by kernel_rfl) ?_
  refine EL.of (EO.Y (YO.loadBox hS 0 rfl 22 0 1 (.slice A103 l102.length C104) 11 (by kernel_rfl) (by kernel_rfl) (by kernel_rfl) (by kernel_rfl)) ?_)
  refine EL.quick 2 [0, 1, 13] [(0, .pointer (some ⟨g101, 0, none⟩)), (1, .int .i64 (mx a109 1)), (13, .bool (decide ((l102.length : Int) = 0)))] (by kernel_rfl) ?_
  refine EL.done (by kernel_rfl) ?_
  refine EQ.code ?_
  refine EW.condP (o := (.tmp 13)) (x := Cd16.r.r.l.r.l) (y := Cd16.r.r.l.r.r) ((l102.length : Int) = 0) (by kernel_rfl) (by kernel_rfl) (fun h177 => ?_) (fun h177 => ?_)
  · rw [if_pos h177] at H
    refine EW.seq (x := Cd16.r.r.l.r.l.l) (y := Cd16.r.r.l.r.l.r) (by kernel_rfl) ?_
    refine EW.region (id := 3) (ops := Cd16.r.r.l.r.l.l.ops) (by kernel_rfl) ?_
    refine EL.quick 3 [1, 16] [(1, .int .i64 (mx a109 1)), (16, .pointer (some ⟨g101, 1, none⟩))] (by kernel_rfl) ?_
    refine EL.of (EO.Y (YO.loadBox hS 0 rfl 30 1 1 (.func (.func 46) #[.pointer (some ⟨g107, 0, none⟩)] #[]) 17 (by kernel_rfl) (by kernel_rfl) (by kernel_rfl) (by kernel_rfl)) ?_)
    refine EL.quick 1 [17, 18] [(17, .func (.func 46) #[.pointer (some ⟨g107, 0, none⟩)] #[]), (18, .int .i64 (mx a109 1))] (by kernel_rfl) ?_
    have hS : St B _ (Ass.box 103 g107 [.int .u64 a108] :: Ass.box 89 g101 [.slice A103 l102.length C104, .func (.func 46) #[.pointer (some ⟨g107, 0, none⟩)] #[]] :: Ass.own 5 (Kd.int .u8) A103 C104 l102 :: os) (rs) := hS.re [2] [] rfl sub_self
    obtain ⟨t178, t179, hc180, H⟩ := b2_out H
    refine EL.of (EO.callD 46 [.pointer (some ⟨g107, 0, none⟩), .int .i64 (mx a109 1)] _ 19 (by kernel_rfl) (by kernel_rfl) (by kernel_rfl) (rng_Rng_Below.calls hc180 hS) ?_)
    rintro v w ⟨rfl, hS⟩
    refine EL.quick 1 [4] [(4, .int .i64 t179)] (by kernel_rfl) ?_
    refine EL.done (by kernel_rfl) ?_
    refine EQ.code ?_
    refine EW.ret (by kernel_rfl) ?_
    refine EQ.ret ?_
    simp only [Option.some.injEq, Prod.mk.injEq] at H
    obtain ⟨rfl, rfl, rfl⟩ := H
    exact EQ.leave (.int .i64 t179) (by kernel_rfl) ⟨_, rfl, A103, C104, rfl, (hS.re [2, 2, 2] [] rfl (sub_self))⟩
  · rw [if_neg h177] at H
    refine EW.skip (by kernel_rfl) ?_
    refine EQ.code ?_
    refine EW.seq (x := Cd16.r.r.r.l) (y := Cd16.r.r.r.r) (by kernel_rfl) ?_
    refine EW.region (id := 4) (ops := Cd16.r.r.r.l.ops) (by kernel_rfl) ?_
    refine EL.quick 3 [0, 1, 22] [(0, .pointer (some ⟨g101, 0, none⟩)), (1, .int .i64 (mx a109 1)), (22, .pointer (some ⟨g101, 0, none⟩))] (by kernel_rfl) ?_
    refine EL.of (EO.Y (YO.loadBox hS 0 rfl 22 0 1 (.slice A103 l102.length C104) 23 (by kernel_rfl) (by kernel_rfl) (by kernel_rfl) (by kernel_rfl)) ?_)
    obtain ⟨h183, H⟩ := ite_in H
    obtain ⟨ad184, rfl⟩ := St.rd_some hS (Rd.own 1 5 rfl) (by decide) h183
    refine EL.of (EO.Y (YO.idx 22 1 ad184 l102.length C104 .i64 0 24 (by kernel_rfl) (by kernel_rfl) (by kernel_rfl) (by kernel_rfl) (by decide) h183) ?_)
    refine EL.of (EO.Y (YO.loadEl hS (Kd.int .u8) ad184 C104 l102 (Rd.own 1 5 rfl) 0 (encI .u8) encI_of 0 (by decide) h183 5 1 0 1 rfl (.int .u8 (l102.getD (0 : Int).toNat 0)) 25 (by kernel_rfl) (by kernel_rfl) (by kernel_rfl) (by kernel_rfl)) ?_)
    refine EL.quick 2 [0, 1, 5] [(0, .pointer (some ⟨g101, 0, none⟩)), (1, .int .i64 (mx a109 1)), (5, .int .i64 (IntKind.i64.wrap (l102.getD (0 : Int).toNat 0)))] (by kernel_rfl) ?_
    refine EL.done (by kernel_rfl) ?_
    refine EQ.code ?_
    refine EW.seq (x := Cd16.r.r.r.r.l) (y := Cd16.r.r.r.r.r) (by kernel_rfl) ?_
    refine EW.region (id := 5) (ops := Cd16.r.r.r.r.l.ops) (by kernel_rfl) ?_
    refine EL.quick 4 [1, 5, 27, 30] [(1, .int .i64 (mx a109 1)), (5, .int .i64 (IntKind.i64.wrap (l102.getD (0 : Int).toNat 0))), (27, .pointer (some ⟨g101, 0, none⟩)), (30, .pointer (some ⟨g101, 0, none⟩))] (by kernel_rfl) ?_
    refine EL.of (EO.Y (YO.loadBox hS 0 rfl 22 0 1 (.slice (some ad184) l102.length C104) 31 (by kernel_rfl) (by kernel_rfl) (by kernel_rfl) (by kernel_rfl)) ?_)
    obtain ⟨h189, H⟩ := ite_in H
    obtain ⟨l190, hl190, H⟩ := lt_out H
    refine EL.of (EO.sliceOwn hS (Kd.int .u8) 5 (some ad184) C104 l102 1 rfl (some (.int .i64 1)) none none 1 l102.length C104 l190 (by rw [hl190]; exact (slice_lo _ _)) (fun A191 C192 => Ass.box 89 g101 [.slice (some ad184) l102.length C104, .func (.func 46) #[.pointer (some ⟨g107, 0, none⟩)] #[]] :: Ass.own 5 (Kd.int .u8) A191 C192 l190 :: Ass.box 103 g107 [.int .u64 a108] :: os) 22 32 (by kernel_rfl) (by kernel_rfl) (by kernel_rfl) (by kernel_rfl) (rfl) (rfl) ⟨rfl, fun h => by first | rfl | cases h⟩ (by omega) (by omega) (.inl rfl) (fun _ _ => rfl) ?_)
    intro A191 C192 hS
    refine EL.quick 2 [1, 5, 32, 34] [(1, .int .i64 (mx a109 1)), (5, .int .i64 (IntKind.i64.wrap (l102.getD (0 : Int).toNat 0))), (32, .slice A191 l190.length C192), (34, .pointer (some ⟨g101, 0, none⟩))] (by kernel_rfl) ?_
    refine EL.of (EO.storeBox (os' := Ass.box 89 g101 [.slice A191 l190.length C192, .func (.func 46) #[.pointer (some ⟨g107, 0, none⟩)] #[]] :: Ass.own 5 (Kd.int .u8) A191 C192 l190 :: Ass.box 103 g107 [.int .u64 a108] :: os) hS 0 rfl 22 0 (.slice A191 l190.length C192) [.slice A191 l190.length C192, .func (.func 46) #[.pointer (some ⟨g107, 0, none⟩)] #[]] (by kernel_rfl) (by kernel_rfl) (by kernel_rfl) (by kernel_rfl) (by kernel_rfl) (by kernel_rfl) rfl rfl ?_)
    intro w hS
    refine EL.done (by kernel_rfl) ?_
    refine EQ.code ?_
    refine EW.seq (x := Cd16.r.r.r.r.r.l) (y := Cd16.r.r.r.r.r.r) (by kernel_rfl) ?_
    refine EW.region (id := 6) (ops := Cd16.r.r.r.r.r.l.ops) (by kernel_rfl) ?_
    refine EL.quick 2 [35, 36] [(35, .int .i64 (IntKind.i64.wrap (l102.getD (0 : Int).toNat 0))), (36, .int .i64 (mx a109 1))] (by kernel_rfl) ?_
    obtain ⟨h193, H⟩ := ite_out H
    refine EL.of (EO.Y (YO.div .rem .i64 (IntKind.i64.wrap (l102.getD (0 : Int).toNat 0)) (mx a109 1) (Int.tmod (IntKind.i64.wrap (l102.getD (0 : Int).toNat 0)) (mx a109 1)) 37 (by kernel_rfl) (by kernel_rfl) (by kernel_rfl) h193 (by first | exact .inl ⟨rfl, rfl⟩ | exact .inr ⟨rfl, rfl⟩)) ?_)
    refine EL.quick 1 [4] [(4, .int .i64 (Int.tmod (IntKind.i64.wrap (l102.getD (0 : Int).toNat 0)) (mx a109 1)))] (by kernel_rfl) ?_
    refine EL.done (by kernel_rfl) ?_
    refine EQ.code ?_
    refine EW.ret (by kernel_rfl) ?_
    simp only [Option.some.injEq, Prod.mk.injEq] at H
    obtain ⟨rfl, rfl, rfl⟩ := H
    exact EQ.leave (.int .i64 (Int.tmod (IntKind.i64.wrap (l102.getD (0 : Int).toNat 0)) (mx a109 1))) (by kernel_rfl) ⟨_, rfl, A191, C192, rfl, (hS.re [1, 1, 2] [] rfl (sub_self))⟩

/-! ### (*confidant/picks.Picks).Left: function 18 -/
def picks_Picks_Left.f (K : Nat) (l220 : List Int) (a226 : Int) : Option (Int × Int) := some (a226, (l220.length : Int))
set_option maxRecDepth 100000 in
theorem picks_Picks_Left.calls {K : Nat} {l220 : List Int} {a226 : Int} {g219 : Nat} {A221 : Option Addr} {C222 : Nat} {g225 : Nat} {x227 : Int} {x228 : Int} {B w : World} {os : List Ass} {rs : List Ro} (H : picks_Picks_Left.f K l220 a226 = some (x227, x228)) (hS : St B w (Ass.box 89 g219 [.slice A221 l220.length C222, .func (.func 46) #[.pointer (some ⟨g225, 0, none⟩)] #[]] :: Ass.own 5 (Kd.int .u8) A221 C222 l220 :: Ass.box 103 g225 [.int .u64 a226] :: os) (rs)) :
    Calls Try.prog 18 [.pointer (some ⟨g219, 0, none⟩)].toArray w (fun en w' => ∃ v, en = .returned v ∧ v = .int .i64 x228 ∧ St B w' (Ass.box 89 g219 [.slice A221 l220.length C222, .func (.func 46) #[.pointer (some ⟨g225, 0, none⟩)] #[]] :: Ass.own 5 (Kd.int .u8) A221 C222 l220 :: Ass.box 103 g225 [.int .u64 x227] :: os) (rs)) := by
  unfold picks_Picks_Left.f at H
  refine calls_of_EW (args := [.pointer (some ⟨g219, 0, none⟩)]) (c := Cd18) 8 Try.func18 (by kernel_rfl) (by kernel_rfl) (by kernel_rfl) ?_
  refine EW.seq (x := Cd18.l) (y := Cd18.r) (by kernel_rfl) ?_
  refine EW.region (id := 0) (ops := Cd18.l.ops) (by kernel_rfl) ?_
  refine EL.quick 1 [0] [(0, .pointer (some ⟨g219, 0, none⟩))] (by kernel_rfl) ?_
  refine EL.done (by kernel_rfl) ?_
  refine EQ.code ?_
  refine EW.seq (x := Cd18.r.l) (y := Cd18.r.r) (by kernel_rfl) ?_
  refine EW.region (id := 1) (ops := Cd18.r.l.ops) (by kernel_rfl) ?_
  refine EL.quick 3 [5] [(5, .pointer (some ⟨g219, 0, none⟩))] (by kernel_rfl) ?_
  refine EL.of (EO.Y (YO.loadBox hS 0 rfl 22 0 1 (.slice A221 l220.length C222) 6 (by kernel_rfl) (by kernel_rfl) (by kernel_rfl) (by kernel_rfl)) ?_)
  refine EL.quick 2 [2] [(2, .int .i64 (l220.length : Int))] (by kernel_rfl) ?_
  refine EL.done (by kernel_rfl) ?_
  refine EQ.code ?_
  refine EW.ret (by kernel_rfl) ?_
  simp only [Option.some.injEq, Prod.mk.injEq] at H
  obtain ⟨rfl, rfl⟩ := H
  exact EQ.leave (.int .i64 (l220.length : Int)) (by kernel_rfl) ⟨_, rfl, rfl, (hS.re [2, 2, 2] [] rfl (sub_self))⟩

/-! ### confidant/confidantref15.NewPicks: function 15 -/
def confidantref15_NewPicks.f (K : Nat) (l247 : List Int) (a250 : Int) : Option (List Int × Int) := lt (fun (x266 : Int) => (some (l247, x266))) fun j267 => (if a250 = 0 then (j267 1) else (j267 a250))
set_option maxRecDepth 100000 in
theorem confidantref15_NewPicks.calls {K : Nat} {l247 : List Int} {a250 : Int} {A248 : Option Addr} {C249 : Nat} {x259 : List Int} {x262 : Int} {B w : World} {os : List Ass} {rs : List Ro} (H : confidantref15_NewPicks.f K l247 a250 = some (x259, x262)) (hS : St B w (os) (Ro.sl (Kd.int .u8) A248 C249 l247 :: rs)) :
    Calls Try.prog 15 [.slice A248 l247.length C249, .int .u64 a250].toArray w (fun en w' => ∃ v, en = .returned v ∧ ∃ g258 : Nat, ∃ A260 : Option Addr, ∃ C261 : Nat, v = .pointer (some ⟨g258, 0, none⟩) ∧ St B w' (Ass.box 33 g258 [.slice A260 x259.length C261, .int .u64 x262] :: os) (Ro.sl (Kd.int .u8) A260 C261 x259 :: Ro.sl (Kd.int .u8) A248 C249 l247 :: rs)) := by
  unfold confidantref15_NewPicks.f at H
  refine calls_of_EW (args := [.slice A248 l247.length C249, .int .u64 a250]) (c := Cd15) 11 Try.func15 (by kernel_rfl) (by kernel_rfl) (by kernel_rfl) ?_
  refine EW.seq (x := Cd15.l) (y := Cd15.r) (by kernel_rfl) ?_
  refine EW.region (id := 0) (ops := Cd15.l.ops) (by kernel_rfl) ?_
  refine EL.quick 1 [0, 1] [(0, .slice A248 l247.length C249), (1, .int .u64 a250)] (by kernel_rfl) ?_
  refine EL.done (by kernel_rfl) ?_
  refine EQ.code ?_
  obtain ⟨j267, hj267, H⟩ := lt_out H
  refine EW.cut (x := Cd15.r.l) (y := Cd15.r.r) (fun a w => ∃ x266 : Int, Sat 11 [(0, .slice A248 l247.length C249), (1, .int .u64 x266)] a ∧ St B w (os) (Ro.sl (Kd.int .u8) A248 C249 l247 :: rs) ∧ j267 x266 = some (x259, x262)) (by kernel_rfl) ?_ (fun a w hI => ?_)
  · refine EW.seq (x := Cd15.r.l.l) (y := Cd15.r.l.r) (by kernel_rfl) ?_
    refine EW.region (id := 1) (ops := Cd15.r.l.l.ops) (by kernel_rfl) ?_
    refine EL.quick 2 [0, 1, 6] [(0, .slice A248 l247.length C249), (1, .int .u64 a250), (6, .bool (decide (a250 = 0)))] (by kernel_rfl) ?_
    refine EL.done (by kernel_rfl) ?_
    refine EQ.code ?_
    refine EW.condP (o := (.tmp 6)) (x := Cd15.r.l.r.l) (y := Cd15.r.l.r.r) (a250 = 0) (by kernel_rfl) (by kernel_rfl) (fun h268 => ?_) (fun h268 => ?_)
    · rw [if_pos h268] at H
      refine EW.region (id := 2) (ops := Cd15.r.l.r.l.ops) (by kernel_rfl) ?_
      refine EL.quick 1 [0, 1] [(0, .slice A248 l247.length C249), (1, .int .u64 1)] (by kernel_rfl) ?_
      refine EL.done (by kernel_rfl) ?_
      refine EQ.to ?_
      refine EQ.keep [0, 1] [(0, .slice A248 l247.length C249), (1, .int .u64 1)] (by kernel_rfl) ?_
      exact fun a ha => ⟨1, ha, (hS.re [] [] rfl (sub_cons 0 rfl (sub_tail (sub_self)))), H⟩
    · rw [if_neg h268] at H
      refine EW.skip (by kernel_rfl) ?_
      refine EQ.to ?_
      refine EQ.keep [0, 1] [(0, .slice A248 l247.length C249), (1, .int .u64 a250)] (by kernel_rfl) ?_
      exact fun a ha => ⟨a250, ha, (hS.re [] [] rfl (sub_cons 0 rfl (sub_tail (sub_self)))), H⟩
  · obtain ⟨x266, ha, hS, H⟩ := hI
    rw [hj267] at H
    (try dsimp only at H)
    refine EW.at ?_ a ha
    clear ha a
    refine EW.seq (x := Cd15.r.r.l) (y := Cd15.r.r.r) (by kernel_rfl) ?_
    refine EW.region (id := 3) (ops := Cd15.r.r.l.ops) (by kernel_rfl) ?_
    refine EL.quick 3 [9] [(9, .agg #[.slice A248 l247.length C249, .int .u64 x266])] (by kernel_rfl) ?_
    refine EL.of (EO.box hS 33 (.agg #[.slice A248 l247.length C249, .int .u64 x266]) [.slice A248 l247.length C249, .int .u64 x266] 10 (by kernel_rfl) (by kernel_rfl) (by kernel_rfl) (by first | rfl | kernel_rfl) ?_)
    intro g269 w hS
    refine EL.quick 1 [4] [(4, .pointer (some ⟨g269, 0, none⟩))] (by kernel_rfl) ?_
    refine EL.done (by kernel_rfl) ?_
    refine EQ.code ?_
    refine EW.ret (by kernel_rfl) ?_
    simp only [Option.some.injEq, Prod.mk.injEq] at H
    obtain ⟨rfl, rfl⟩ := H
    exact EQ.leave (.pointer (some ⟨g269, 0, none⟩)) (by kernel_rfl) ⟨_, rfl, g269, A248, C249, rfl, (hS.re [0] [] rfl (sub_cons 0 rfl (sub_self)))⟩

/-! ### confidant/confidantref15.Step: function 58 -/
def confidantref15_Step.f (K : Nat) (a302 : Int) : Option Int := lt (bX .u64 (bX .u64 a302 (sL .u64 a302 13)) (sR .u64 (bX .u64 a302 (sL .u64 a302 13)) 7)) fun y307 => (some (bX .u64 y307 (sL .u64 y307 17)))
set_option maxRecDepth 100000 in
theorem confidantref15_Step.calls {K : Nat} {a302 : Int} {x305 : Int} {B w : World} {os : List Ass} {rs : List Ro} (H : confidantref15_Step.f K a302 = some x305) (hS : St B w (os) (rs)) :
    Calls Try.prog 58 [.int .u64 a302].toArray w (fun en w' => ∃ v, en = .returned v ∧ v = .int .u64 x305 ∧ St B w' (os) (rs)) := by
  unfold confidantref15_Step.f at H
  refine calls_of_EW (args := [.int .u64 a302]) (c := Cd58) 16 Try.func58 (by kernel_rfl) (by kernel_rfl) (by kernel_rfl) ?_
  refine EW.seq (x := Cd58.l) (y := Cd58.r) (by kernel_rfl) ?_
  refine EW.region (id := 0) (ops := Cd58.l.ops) (by kernel_rfl) ?_
  refine EL.quick 1 [0] [(0, .int .u64 a302)] (by kernel_rfl) ?_
  refine EL.done (by kernel_rfl) ?_
  refine EQ.code ?_
  refine EW.seq (x := Cd58.r.l) (y := Cd58.r.r) (by kernel_rfl) ?_
  refine EW.region (id := 1) (ops := Cd58.r.l.ops) (by kernel_rfl) ?_
  refine EL.quick 5 [0] [(0, .int .u64 (bX .u64 a302 (sL .u64 a302 13)))] (by kernel_rfl) ?_
  refine EL.done (by kernel_rfl) ?_
  refine EQ.code ?_
  refine EW.seq (x := Cd58.r.r.l) (y := Cd58.r.r.r) (by kernel_rfl) ?_
  refine EW.region (id := 2) (ops := Cd58.r.r.l.ops) (by kernel_rfl) ?_
  refine EL.quick 5 [0] [(0, .int .u64 (bX .u64 (bX .u64 a302 (sL .u64 a302 13)) (sR .u64 (bX .u64 a302 (sL .u64 a302 13)) 7)))] (by kernel_rfl) ?_
  obtain ⟨y307, hy307, H⟩ := lt_out H
  refine EL.keep [0] [(0, .int .u64 (bX .u64 (bX .u64 a302 (sL .u64 a302 13)) (sR .u64 (bX .u64 a302 (sL .u64 a302 13)) 7)))] (by kernel_rfl) ?_
  refine EL.as' [(0, .int .u64 y307)] (by subst hy307; rfl) ?_
  refine EL.done (by kernel_rfl) ?_
  refine EQ.code ?_
  refine EW.seq (x := Cd58.r.r.r.l) (y := Cd58.r.r.r.r) (by kernel_rfl) ?_
  refine EW.region (id := 3) (ops := Cd58.r.r.r.l.ops) (by kernel_rfl) ?_
  refine EL.quick 5 [0] [(0, .int .u64 (bX .u64 y307 (sL .u64 y307 17)))] (by kernel_rfl) ?_
  refine EL.done (by kernel_rfl) ?_
  refine EQ.code ?_
  refine EW.seq (x := Cd58.r.r.r.r.l) (y := Cd58.r.r.r.r.r) (by kernel_rfl) ?_
  refine EW.region (id := 4) (ops := Cd58.r.r.r.r.l.ops) (by kernel_rfl) ?_
  refine EL.quick 2 [2] [(2, .int .u64 (bX .u64 y307 (sL .u64 y307 17)))] (by kernel_rfl) ?_
  refine EL.done (by kernel_rfl) ?_
  refine EQ.code ?_
  refine EW.ret (by kernel_rfl) ?_
  obtain rfl := Option.some.inj H
  exact EQ.leave (.int .u64 (bX .u64 y307 (sL .u64 y307 17))) (by kernel_rfl) ⟨_, rfl, rfl, (hS.re [] [] rfl (sub_self))⟩

/-! ### (*confidant/confidantref15.Picks).Below: function 47 -/
def confidantref15_Picks_Below.f (K : Nat) (l295 : List Int) (a298 : Int) (a299 : Int) : Option (List Int × Int × Int) := if a299 < 1 then (some (l295, a298, 0)) else (b1 (confidantref15_Step.f K a298) fun (t322 : Int) => (if (IntKind.u64.wrap a299) = 0 then none else (some (l295, t322, IntKind.i64.wrap (Int.tmod t322 (IntKind.u64.wrap a299))))))
set_option maxRecDepth 100000 in
theorem confidantref15_Picks_Below.calls {K : Nat} {l295 : List Int} {a298 : Int} {a299 : Int} {g294 : Nat} {A296 : Option Addr} {C297 : Nat} {x313 : List Int} {x316 : Int} {x317 : Int} {B w : World} {os : List Ass} {rs : List Ro} (H : confidantref15_Picks_Below.f K l295 a298 a299 = some (x313, x316, x317)) (hS : St B w (Ass.box 33 g294 [.slice A296 l295.length C297, .int .u64 a298] :: os) (Ro.sl (Kd.int .u8) A296 C297 l295 :: rs)) :
    Calls Try.prog 47 [.pointer (some ⟨g294, 0, none⟩), .int .i64 a299].toArray w (fun en w' => ∃ v, en = .returned v ∧ ∃ A314 : Option Addr, ∃ C315 : Nat, v = .int .i64 x317 ∧ St B w' (Ass.box 33 g294 [.slice A314 x313.length C315, .int .u64 x316] :: os) (Ro.sl (Kd.int .u8) A314 C315 x313 :: Ro.sl (Kd.int .u8) A296 C297 l295 :: rs)) := by
  unfold confidantref15_Picks_Below.f at H
  refine calls_of_EW (args := [.pointer (some ⟨g294, 0, none⟩), .int .i64 a299]) (c := Cd47) 23 Try.func47 (by kernel_rfl) (by kernel_rfl) (by kernel_rfl) ?_
  refine EW.seq (x := Cd47.l) (y := Cd47.r) (by kernel_rfl) ?_
  refine EW.region (id := 0) (ops := Cd47.l.ops) (by kernel_rfl) ?_
  refine EL.quick 1 [0, 1] [(0, .pointer (some ⟨g294, 0, none⟩)), (1, .int .i64 a299)] (by kernel_rfl) ?_
  refine EL.done (by kernel_rfl) ?_
  refine EQ.code ?_
  refine EW.seq (x := Cd47.r.l) (y := Cd47.r.r) (by kernel_rfl) ?_
  refine EW.seq (x := Cd47.r.l.l) (y := Cd47.r.l.r) (by kernel_rfl) ?_
  refine EW.region (id := 1) (ops := Cd47.r.l.l.ops) (by kernel_rfl) ?_
  refine EL.quick 2 [0, 1, 6] [(0, .pointer (some ⟨g294, 0, none⟩)), (1, .int .i64 a299), (6, .bool (decide (a299 < 1)))] (by kernel_rfl) ?_
  refine EL.done (by kernel_rfl) ?_
  refine EQ.code ?_
  refine EW.condP (o := (.tmp 6)) (x := Cd47.r.l.r.l) (y := Cd47.r.l.r.r) (a299 < 1) (by kernel_rfl) (by kernel_rfl) (fun h319 => ?_) (fun h319 => ?_)
  · rw [if_pos h319] at H
    refine EW.seq (x := Cd47.r.l.r.l.l) (y := Cd47.r.l.r.l.r) (by kernel_rfl) ?_
    refine EW.region (id := 2) (ops := Cd47.r.l.r.l.l.ops) (by kernel_rfl) ?_
    refine EL.quick 1 [4] [(4, .int .i64 0)] (by kernel_rfl) ?_
    refine EL.done (by kernel_rfl) ?_
    refine EQ.code ?_
    refine EW.ret (by kernel_rfl) ?_
    refine EQ.ret ?_
    simp only [Option.some.injEq, Prod.mk.injEq] at H
    obtain ⟨rfl, rfl, rfl⟩ := H
    exact EQ.leave (.int .i64 0) (by kernel_rfl) ⟨_, rfl, A296, C297, rfl, (hS.re [0] [] rfl (sub_cons 0 rfl (sub_self)))⟩
  · rw [if_neg h319] at H
    refine EW.skip (by kernel_rfl) ?_
    refine EQ.code ?_
    refine EW.seq (x := Cd47.r.r.l) (y := Cd47.r.r.r) (by kernel_rfl) ?_
    refine EW.region (id := 3) (ops := Cd47.r.r.l.ops) (by kernel_rfl) ?_
    refine EL.quick 4 [0, 1, 7, 10] [(0, .pointer (some ⟨g294, 0, none⟩)), (1, .int .i64 a299), (7, .pointer (some ⟨g294, 0, none⟩)), (10, .pointer (some ⟨g294, 1, none⟩))] (by kernel_rfl) ?_
    refine EL.of (EO.Y (YO.loadBox hS 0 rfl 23 1 1 (.int .u64 a298) 11 (by kernel_rfl) (by kernel_rfl) (by kernel_rfl) (by kernel_rfl)) ?_)
    obtain ⟨t322, hc323, H⟩ := b1_out H
    refine EL.of (EO.callD 58 [.int .u64 a298] _ 12 (by kernel_rfl) (by kernel_rfl) (by kernel_rfl) (confidantref15_Step.calls hc323 hS) ?_)
    rintro v w ⟨rfl, hS⟩
    refine EL.quick 2 [0, 1, 12, 14] [(0, .pointer (some ⟨g294, 0, none⟩)), (1, .int .i64 a299), (12, .int .u64 t322), (14, .pointer (some ⟨g294, 1, none⟩))] (by kernel_rfl) ?_
    refine EL.of (EO.storeBox (os' := Ass.box 33 g294 [.slice A296 l295.length C297, .int .u64 t322] :: os) hS 0 rfl 23 1 (.int .u64 t322) [.slice A296 l295.length C297, .int .u64 t322] (by kernel_rfl) (by kernel_rfl) (by kernel_rfl) (by kernel_rfl) (by kernel_rfl) (by kernel_rfl) rfl rfl ?_)
    intro w hS
    refine EL.done (by kernel_rfl) ?_
    refine EQ.code ?_
    refine EW.seq (x := Cd47.r.r.r.l) (y := Cd47.r.r.r.r) (by kernel_rfl) ?_
    refine EW.region (id := 4) (ops := Cd47.r.r.r.l.ops) (by kernel_rfl) ?_
    refine EL.quick 3 [1, 17] [(1, .int .i64 a299), (17, .pointer (some ⟨g294, 1, none⟩))] (by kernel_rfl) ?_
    refine EL.of (EO.Y (YO.loadBox hS 0 rfl 23 1 1 (.int .u64 t322) 18 (by kernel_rfl) (by kernel_rfl) (by kernel_rfl) (by kernel_rfl)) ?_)
    refine EL.quick 2 [18, 20] [(18, .int .u64 t322), (20, .int .u64 (IntKind.u64.wrap a299))] (by kernel_rfl) ?_
    obtain ⟨h324, H⟩ := ite_out H
    refine EL.of (EO.Y (YO.div .rem .u64 t322 (IntKind.u64.wrap a299) (Int.tmod t322 (IntKind.u64.wrap a299)) 21 (by kernel_rfl) (by kernel_rfl) (by kernel_rfl) h324 (by first | exact .inl ⟨rfl, rfl⟩ | exact .inr ⟨rfl, rfl⟩)) ?_)
    refine EL.quick 2 [4] [(4, .int .i64 (IntKind.i64.wrap (Int.tmod t322 (IntKind.u64.wrap a299))))] (by kernel_rfl) ?_
    refine EL.done (by kernel_rfl) ?_
    refine EQ.code ?_
    refine EW.ret (by kernel_rfl) ?_
    simp only [Option.some.injEq, Prod.mk.injEq] at H
    obtain ⟨rfl, rfl, rfl⟩ := H
    exact EQ.leave (.int .i64 (IntKind.i64.wrap (Int.tmod t322 (IntKind.u64.wrap a299)))) (by kernel_rfl) ⟨_, rfl, A296, C297, rfl, (hS.re [0] [] rfl (sub_cons 0 rfl (sub_self)))⟩

/-! ### (*confidant/confidantref15.Picks).Next: function 17 -/
def confidantref15_Picks_Next.f (K : Nat) (l287 : List Int) (a290 : Int) (a291 : Int) : Option (List Int × Int × Int) := if (l287.length : Int) = 0 then (b3 (confidantref15_Picks_Below.f K l287 a290 (mx a291 1)) fun (t361 : List Int) (t362 : Int) (t363 : Int) => (some (t361, t362, t363))) else (if (0 : Int) < (l287.length : Int) then (if (mx a291 1) = 0 then none else (if (1 : Int) ≤ (l287.length : Int) then (lt (l287.drop 1) fun l374 => (some (l374, a290, Int.tmod (IntKind.i64.wrap (l287.getD (0 : Int).toNat 0)) (mx a291 1)))) else none)) else none)
set_option maxRecDepth 100000 in
theorem confidantref15_Picks_Next.calls {K : Nat} {l287 : List Int} {a290 : Int} {a291 : Int} {g286 : Nat} {A288 : Option Addr} {C289 : Nat} {x348 : List Int} {x351 : Int} {x352 : Int} {B w : World} {os : List Ass} {rs : List Ro} (H : confidantref15_Picks_Next.f K l287 a290 a291 = some (x348, x351, x352)) (hS : St B w (Ass.box 33 g286 [.slice A288 l287.length C289, .int .u64 a290] :: os) (Ro.sl (Kd.int .u8) A288 C289 l287 :: rs)) :
    Calls Try.prog 17 [.pointer (some ⟨g286, 0, none⟩), .int .i64 a291].toArray w (fun en w' => ∃ v, en = .returned v ∧ ∃ A349 : Option Addr, ∃ C350 : Nat, v = .int .i64 x352 ∧ St B w' (Ass.box 33 g286 [.slice A349 x348.length C350, .int .u64 x351] :: os) (Ro.sl (Kd.int .u8) A349 C350 x348 :: Ro.sl (Kd.int .u8) A288 C289 l287 :: rs)) := by
  unfold confidantref15_Picks_Next.f at H
  refine calls_of_EW (args := [.pointer (some ⟨g286, 0, none⟩), .int .i64 a291]) (c := Cd17) 35 Try.func17 (by kernel_rfl) (by kernel_rfl) (by kernel_rfl) ?_
  refine EW.seq (x := Cd17.l) (y := Cd17.r) (by kernel_rfl) ?_
  refine EW.region (id := 0) (ops := Cd17.l.ops) (by kernel_rfl) ?_
  refine EL.quick 1 [0, 1] [(0, .pointer (some ⟨g286, 0, none⟩)), (1, .int .i64 a291)] (by kernel_rfl) ?_
  refine EL.done (by kernel_rfl) ?_
  refine EQ.code ?_
  refine EW.seq (x := Cd17.r.l) (y := Cd17.r.r) (by kernel_rfl) ?_
  refine EW.seq (x := Cd17.r.l.l) (y := Cd17.r.l.r) (by kernel_rfl) ?_
  refine EW.region (id := 1) (ops := Cd17.r.l.l.ops) (by kernel_rfl) ?_
  refine EL.quick 3 [0, 1, 8] [(0, .pointer (some ⟨g286, 0, none⟩)), (1, .int .i64 a291), (8, .pointer (some ⟨g286, 0, none⟩))] (by kernel_rfl) ?_
  refine EL.of (EO.Y (YO.loadBox hS 0 rfl 22 0 1 (.slice A288 l287.length C289) 9 (by kernel_rfl) (by kernel_rfl) (by kernel_rfl) (by kernel_rfl)) ?_)
  refine EL.quick 2 [0, 1, 11] [(0, .pointer (some ⟨g286, 0, none⟩)), (1, .int .i64 a291), (11, .bool (decide ((l287.length : Int) = 0)))] (by kernel_rfl) ?_
  refine EL.done (by kernel_rfl) ?_
  refine EQ.code ?_
  refine EW.condP (o := (.tmp 11)) (x := Cd17.r.l.r.l) (y := Cd17.r.l.r.r) ((l287.length : Int) = 0) (by kernel_rfl) (by kernel_rfl) (fun h360 => ?_) (fun h360 => ?_)
  · rw [if_pos h360] at H
    refine EW.seq (x := Cd17.r.l.r.l.l) (y := Cd17.r.l.r.l.r) (by kernel_rfl) ?_
    refine EW.region (id := 2) (ops := Cd17.r.l.r.l.l.ops) (by kernel_rfl) ?_
    refine EL.quick 3 [12, 14] [(12, .pointer (some ⟨g286, 0, none⟩)), (14, .int .i64 (mx a291 1))] (by kernel_rfl) ?_
    have hS : St B _ (Ass.box 33 g286 [.slice A288 l287.length C289, .int .u64 a290] :: os) (Ro.sl (Kd.int .u8) A288 C289 l287 :: Ro.sl (Kd.int .u8) A288 C289 l287 :: rs) := hS.re [0] [] rfl (sub_cons 0 rfl sub_self)
    obtain ⟨t361, t362, t363, hc366, H⟩ := b3_out H
    refine EL.of (EO.callD 47 [.pointer (some ⟨g286, 0, none⟩), .int .i64 (mx a291 1)] _ 15 (by kernel_rfl) (by kernel_rfl) (by kernel_rfl) (confidantref15_Picks_Below.calls hc366 hS) ?_)
    rintro v w ⟨A364, C365, rfl, hS⟩
    refine EL.quick 1 [4] [(4, .int .i64 t363)] (by kernel_rfl) ?_
    refine EL.done (by kernel_rfl) ?_
    refine EQ.code ?_
    refine EW.ret (by kernel_rfl) ?_
    refine EQ.ret ?_
    simp only [Option.some.injEq, Prod.mk.injEq] at H
    obtain ⟨rfl, rfl, rfl⟩ := H
    exact EQ.leave (.int .i64 t363) (by kernel_rfl) ⟨_, rfl, A364, C365, rfl, (hS.re [0] [] rfl (sub_cons 0 rfl (sub_tail (sub_tail (sub_self)))))⟩
  · rw [if_neg h360] at H
    refine EW.skip (by kernel_rfl) ?_
    refine EQ.code ?_
    refine EW.seq (x := Cd17.r.r.l) (y := Cd17.r.r.r) (by kernel_rfl) ?_
    refine EW.region (id := 3) (ops := Cd17.r.r.l.ops) (by kernel_rfl) ?_
    refine EL.quick 3 [0, 1, 18] [(0, .pointer (some ⟨g286, 0, none⟩)), (1, .int .i64 a291), (18, .pointer (some ⟨g286, 0, none⟩))] (by kernel_rfl) ?_
    refine EL.of (EO.Y (YO.loadBox hS 0 rfl 22 0 1 (.slice A288 l287.length C289) 19 (by kernel_rfl) (by kernel_rfl) (by kernel_rfl) (by kernel_rfl)) ?_)
    obtain ⟨h370, H⟩ := ite_in H
    obtain ⟨ad371, rfl⟩ := St.rd_some hS (Rd.ro 0 rfl) (by decide) h370
    refine EL.of (EO.Y (YO.idx 22 1 ad371 l287.length C289 .i64 0 20 (by kernel_rfl) (by kernel_rfl) (by kernel_rfl) (by kernel_rfl) (by decide) h370) ?_)
    refine EL.of (EO.Y (YO.loadEl hS (Kd.int .u8) ad371 C289 l287 (Rd.ro 0 rfl) 0 (encI .u8) encI_of 0 (by decide) h370 5 1 0 1 rfl (.int .u8 (l287.getD (0 : Int).toNat 0)) 21 (by kernel_rfl) (by kernel_rfl) (by kernel_rfl) (by kernel_rfl)) ?_)
    refine EL.quick 3 [0, 22, 24] [(0, .pointer (some ⟨g286, 0, none⟩)), (22, .int .i64 (IntKind.i64.wrap (l287.getD (0 : Int).toNat 0))), (24, .int .i64 (mx a291 1))] (by kernel_rfl) ?_
    obtain ⟨h372, H⟩ := ite_out H
    refine EL.of (EO.Y (YO.div .rem .i64 (IntKind.i64.wrap (l287.getD (0 : Int).toNat 0)) (mx a291 1) (Int.tmod (IntKind.i64.wrap (l287.getD (0 : Int).toNat 0)) (mx a291 1)) 25 (by kernel_rfl) (by kernel_rfl) (by kernel_rfl) h372 (by first | exact .inl ⟨rfl, rfl⟩ | exact .inr ⟨rfl, rfl⟩)) ?_)
    refine EL.quick 1 [0, 5] [(0, .pointer (some ⟨g286, 0, none⟩)), (5, .int .i64 (Int.tmod (IntKind.i64.wrap (l287.getD (0 : Int).toNat 0)) (mx a291 1)))] (by kernel_rfl) ?_
    refine EL.done (by kernel_rfl) ?_
    refine EQ.code ?_
    refine EW.seq (x := Cd17.r.r.r.l) (y := Cd17.r.r.r.r) (by kernel_rfl) ?_
    refine EW.region (id := 4) (ops := Cd17.r.r.r.l.ops) (by kernel_rfl) ?_
    refine EL.quick 4 [5, 26, 29] [(5, .int .i64 (Int.tmod (IntKind.i64.wrap (l287.getD (0 : Int).toNat 0)) (mx a291 1))), (26, .pointer (some ⟨g286, 0, none⟩)), (29, .pointer (some ⟨g286, 0, none⟩))] (by kernel_rfl) ?_
    refine EL.of (EO.Y (YO.loadBox hS 0 rfl 22 0 1 (.slice (some ad371) l287.length C289) 30 (by kernel_rfl) (by kernel_rfl) (by kernel_rfl) (by kernel_rfl)) ?_)
    obtain ⟨h373, H⟩ := ite_in H
    obtain ⟨l374, hl374, H⟩ := lt_out H
    refine EL.of (EO.sliceRo hS (Kd.int .u8) (some ad371) C289 l287 0 rfl (some (.int .i64 1)) none none 1 l287.length C289 l374 (by rw [hl374]; exact (slice_lo _ _)) 22 31 (by kernel_rfl) (by kernel_rfl) (by kernel_rfl) (by kernel_rfl) (rfl) (rfl) ⟨rfl, fun h => by first | rfl | cases h⟩ (by omega) (by omega) (.inl rfl) ?_)
    intro A375 C376 hS
    refine EL.quick 2 [5, 31, 33] [(5, .int .i64 (Int.tmod (IntKind.i64.wrap (l287.getD (0 : Int).toNat 0)) (mx a291 1))), (31, .slice A375 l374.length C376), (33, .pointer (some ⟨g286, 0, none⟩))] (by kernel_rfl) ?_
    refine EL.of (EO.storeBox (os' := Ass.box 33 g286 [.slice A375 l374.length C376, .int .u64 a290] :: os) hS 0 rfl 22 0 (.slice A375 l374.length C376) [.slice A375 l374.length C376, .int .u64 a290] (by kernel_rfl) (by kernel_rfl) (by kernel_rfl) (by kernel_rfl) (by kernel_rfl) (by kernel_rfl) rfl rfl ?_)
    intro w hS
    refine EL.done (by kernel_rfl) ?_
    refine EQ.code ?_
    refine EW.seq (x := Cd17.r.r.r.r.l) (y := Cd17.r.r.r.r.r) (by kernel_rfl) ?_
    refine EW.region (id := 5) (ops := Cd17.r.r.r.r.l.ops) (by kernel_rfl) ?_
    refine EL.quick 2 [4] [(4, .int .i64 (Int.tmod (IntKind.i64.wrap (l287.getD (0 : Int).toNat 0)) (mx a291 1)))] (by kernel_rfl) ?_
    refine EL.done (by kernel_rfl) ?_
    refine EQ.code ?_
    refine EW.ret (by kernel_rfl) ?_
    simp only [Option.some.injEq, Prod.mk.injEq] at H
    obtain ⟨rfl, rfl, rfl⟩ := H
    exact EQ.leave (.int .i64 (Int.tmod (IntKind.i64.wrap (l287.getD (0 : Int).toNat 0)) (mx a291 1))) (by kernel_rfl) ⟨_, rfl, A375, C376, rfl, (hS.re [0] [] rfl (sub_cons 0 rfl (sub_tail (sub_self))))⟩

/-! ### confidant/confidantlaw17.known: function 13 -/
def confidantlaw17_known.f (K : Nat)  : Option Bool := lt ([5, 3] : List Int) fun l407 => (b2 (picks_New.f K l407 7) fun (t408 : List Int) (t409 : Int) => (b3 (picks_Picks_Next.f K t408 t409 2) fun (t427 : Int) (t428 : List Int) (t429 : Int) => (b3 (picks_Picks_Next.f K t428 t427 0) fun (t433 : Int) (t434 : List Int) (t435 : Int) => (b2 (picks_Picks_Left.f K t434 t433) fun (t442 : Int) (t443 : Int) => (b3 (picks_Picks_Next.f K t434 t442 4) fun (t451 : Int) (t452 : List Int) (t453 : Int) => (b2 (confidantref15_NewPicks.f K ([] : List Int) 7) fun (t463 : List Int) (t464 : Int) => (if t429 = 1 then (if t435 = 0 then (if t443 = 0 then (b3 (confidantref15_Picks_Next.f K t463 t464 4) fun (t472 : List Int) (t473 : Int) (t474 : Int) => (if t453 = t474 then (lt ([1] : List Int) fun l480 => (b2 (picks_New.f K l480 0) fun (t481 : List Int) (t482 : Int) => (b2 (picks_Picks_Left.f K t481 t482) fun (t488 : Int) (t489 : Int) => (some (decide (t489 = 1)))))) else (some false))) else (some false)) else (some false)) else (some false))))))))
set_option maxRecDepth 100000 in
theorem confidantlaw17_known.calls {K : Nat} {x396 : Bool} {B w : World} {os : List Ass} {rs : List Ro} (H : confidantlaw17_known.f K = some x396) (hS : St B w (os) (rs)) :
    Calls Try.prog 13 [].toArray w (fun en w' => ∃ v, en = .returned v ∧ v = .bool (x396) ∧ St B w' (os) (rs)) := by
  unfold confidantlaw17_known.f at H
  refine calls_of_EW (args := []) (c := Cd13) 42 Try.func13 (by kernel_rfl) (by kernel_rfl) (by kernel_rfl) ?_
  refine EW.seq (x := Cd13.l) (y := Cd13.r) (by kernel_rfl) ?_
  refine EW.region (id := 0) (ops := Cd13.l.ops) (by kernel_rfl) ?_
  refine EL.quick 1 [] [] (by kernel_rfl) ?_
  refine EL.done (by kernel_rfl) ?_
  refine EQ.code ?_
  refine EW.seq (x := Cd13.r.l) (y := Cd13.r.r) (by kernel_rfl) ?_
  refine EW.region (id := 1) (ops := Cd13.r.l.ops) (by kernel_rfl) ?_
  obtain ⟨l407, hl407, H⟩ := lt_out H
  refine EL.of (EO.lit hS (Kd.int .u8) 5 22 2 #[(0, .int .u8 5), (1, .int .u8 3)] [.int .u8 5, .int .u8 3] l407 7 (by kernel_rfl) (by kernel_rfl) (by kernel_rfl) (fun _ => (by kernel_rfl)) (by rw [hl407]; rfl) (by kernel_rfl) (fun w G hr => (by rw [hl407]; exact ⟨[.int .u8 5], [.int .u8 3], rfl, rfl, ⟨[.int .u8 3], [], rfl, rfl, rfl⟩⟩)) ?_)
  intro g406 w hS
  have hS := St.fr hS 0 rfl
  have hS : St B _ (os) (Ro.sl (Kd.int .u8) (some ⟨g406, 0, none⟩) 2 l407 :: Ro.sl (Kd.int .u8) (some ⟨g406, 0, none⟩) 2 l407 :: rs) := hS.re [] [] rfl (sub_cons 0 rfl sub_self)
  obtain ⟨t408, t409, hc414, H⟩ := b2_out H
  refine EL.of (EO.callD 14 [.slice (some ⟨g406, 0, none⟩) l407.length 2, .int .u64 7] _ 8 (by kernel_rfl) (by kernel_rfl) (by kernel_rfl) (picks_New.calls hc414 hS) ?_)
  rintro v w ⟨g410, g411, A412, C413, rfl, hS⟩
  refine EL.quick 1 [1] [(1, .pointer (some ⟨g410, 0, none⟩))] (by kernel_rfl) ?_
  refine EL.done (by kernel_rfl) ?_
  refine EQ.code ?_
  refine EW.seq (x := Cd13.r.r.l) (y := Cd13.r.r.r) (by kernel_rfl) ?_
  refine EW.seq (x := Cd13.r.r.l.l) (y := Cd13.r.r.l.r) (by kernel_rfl) ?_
  refine EW.region (id := 2) (ops := Cd13.r.r.l.l.ops) (by kernel_rfl) ?_
  refine EL.quick 2 [1, 10] [(1, .pointer (some ⟨g410, 0, none⟩)), (10, .bool (false))] (by kernel_rfl) ?_
  refine EL.done (by kernel_rfl) ?_
  refine EQ.code ?_
  refine EW.condF (o := (.tmp 10)) (x := Cd13.r.r.l.r.l) (y := Cd13.r.r.l.r.r) (by kernel_rfl) (by kernel_rfl) ?_
  refine EW.skip (by kernel_rfl) ?_
  refine EQ.code ?_
  refine EW.seq (x := Cd13.r.r.r.l) (y := Cd13.r.r.r.r) (by kernel_rfl) ?_
  refine EW.region (id := 4) (ops := Cd13.r.r.r.l.ops) (by kernel_rfl) ?_
  refine EL.quick 1 [1, 11] [(1, .pointer (some ⟨g410, 0, none⟩)), (11, .pointer (some ⟨g410, 0, none⟩))] (by kernel_rfl) ?_
  have hS : St B _ (Ass.box 89 g410 [.slice A412 t408.length C413, .func (.func 46) #[.pointer (some ⟨g411, 0, none⟩)] #[]] :: Ass.own 5 (Kd.int .u8) A412 C413 t408 :: Ass.box 103 g411 [.int .u64 t409] :: os) (Ro.sl (Kd.int .u8) (some ⟨g406, 0, none⟩) 2 l407 :: Ro.sl (Kd.int .u8) (some ⟨g406, 0, none⟩) 2 l407 :: rs) := hS.re [1, 2, 2] [] rfl sub_self
  obtain ⟨t427, t428, t429, hc432, H⟩ := b3_out H
  refine EL.of (EO.callD 16 [.pointer (some ⟨g410, 0, none⟩), .int .i64 2] _ 12 (by kernel_rfl) (by kernel_rfl) (by kernel_rfl) (picks_Picks_Next.calls hc432 hS) ?_)
  rintro v w ⟨A430, C431, rfl, hS⟩
  refine EL.quick 1 [1, 12, 13] [(1, .pointer (some ⟨g410, 0, none⟩)), (12, .int .i64 t429), (13, .pointer (some ⟨g410, 0, none⟩))] (by kernel_rfl) ?_
  have hS : St B _ (Ass.box 89 g410 [.slice A430 t428.length C431, .func (.func 46) #[.pointer (some ⟨g411, 0, none⟩)] #[]] :: Ass.own 5 (Kd.int .u8) A430 C431 t428 :: Ass.box 103 g411 [.int .u64 t427] :: os) (Ro.sl (Kd.int .u8) (some ⟨g406, 0, none⟩) 2 l407 :: Ro.sl (Kd.int .u8) (some ⟨g406, 0, none⟩) 2 l407 :: rs) := hS.re [0, 2, 2] [] rfl sub_self
  obtain ⟨t433, t434, t435, hc438, H⟩ := b3_out H
  refine EL.of (EO.callD 16 [.pointer (some ⟨g410, 0, none⟩), .int .i64 0] _ 14 (by kernel_rfl) (by kernel_rfl) (by kernel_rfl) (picks_Picks_Next.calls hc438 hS) ?_)
  rintro v w ⟨A436, C437, rfl, hS⟩
  refine EL.quick 2 [1, 2, 3] [(1, .pointer (some ⟨g410, 0, none⟩)), (2, .int .i64 t429), (3, .int .i64 t435)] (by kernel_rfl) ?_
  refine EL.done (by kernel_rfl) ?_
  refine EQ.code ?_
  refine EW.seq (x := Cd13.r.r.r.r.l) (y := Cd13.r.r.r.r.r) (by kernel_rfl) ?_
  refine EW.region (id := 5) (ops := Cd13.r.r.r.r.l.ops) (by kernel_rfl) ?_
  refine EL.quick 1 [1, 2, 3, 15] [(1, .pointer (some ⟨g410, 0, none⟩)), (2, .int .i64 t429), (3, .int .i64 t435), (15, .pointer (some ⟨g410, 0, none⟩))] (by kernel_rfl) ?_
  have hS : St B _ (Ass.box 89 g410 [.slice A436 t434.length C437, .func (.func 46) #[.pointer (some ⟨g411, 0, none⟩)] #[]] :: Ass.own 5 (Kd.int .u8) A436 C437 t434 :: Ass.box 103 g411 [.int .u64 t433] :: os) (Ro.sl (Kd.int .u8) (some ⟨g406, 0, none⟩) 2 l407 :: Ro.sl (Kd.int .u8) (some ⟨g406, 0, none⟩) 2 l407 :: rs) := hS.re [0, 2, 2] [] rfl sub_self
  obtain ⟨t442, t443, hc444, H⟩ := b2_out H
  refine EL.of (EO.callD 18 [.pointer (some ⟨g410, 0, none⟩)] _ 16 (by kernel_rfl) (by kernel_rfl) (by kernel_rfl) (picks_Picks_Left.calls hc444 hS) ?_)
  rintro v w ⟨rfl, hS⟩
  refine EL.quick 1 [1, 2, 3, 4] [(1, .pointer (some ⟨g410, 0, none⟩)), (2, .int .i64 t429), (3, .int .i64 t435), (4, .int .i64 t443)] (by kernel_rfl) ?_
  refine EL.done (by kernel_rfl) ?_
  refine EQ.code ?_
  refine EW.seq (x := Cd13.r.r.r.r.r.l) (y := Cd13.r.r.r.r.r.r) (by kernel_rfl) ?_
  refine EW.region (id := 6) (ops := Cd13.r.r.r.r.r.l.ops) (by kernel_rfl) ?_
  refine EL.quick 1 [2, 3, 4, 17] [(2, .int .i64 t429), (3, .int .i64 t435), (4, .int .i64 t443), (17, .pointer (some ⟨g410, 0, none⟩))] (by kernel_rfl) ?_
  obtain ⟨t451, t452, t453, hc456, H⟩ := b3_out H
  refine EL.of (EO.callD 16 [.pointer (some ⟨g410, 0, none⟩), .int .i64 4] _ 18 (by kernel_rfl) (by kernel_rfl) (by kernel_rfl) (picks_Picks_Next.calls hc456 hS) ?_)
  rintro v w ⟨A454, C455, rfl, hS⟩
  refine EL.quick 1 [2, 3, 4, 5] [(2, .int .i64 t429), (3, .int .i64 t435), (4, .int .i64 t443), (5, .int .i64 t453)] (by kernel_rfl) ?_
  refine EL.done (by kernel_rfl) ?_
  refine EQ.code ?_
  refine EW.seq (x := Cd13.r.r.r.r.r.r.l) (y := Cd13.r.r.r.r.r.r.r) (by kernel_rfl) ?_
  refine EW.region (id := 7) (ops := Cd13.r.r.r.r.r.r.l.ops) (by kernel_rfl) ?_
  have hS := St.nilR hS (Kd.int .u8)
  have hS : St B _ (Ass.box 103 g411 [.int .u64 t451] :: Ass.box 89 g410 [.slice A454 t452.length C455, .func (.func 46) #[.pointer (some ⟨g411, 0, none⟩)] #[]] :: Ass.own 5 (Kd.int .u8) A454 C455 t452 :: os) (Ro.sl (Kd.int .u8) none 0 ([] : List Int) :: Ro.sl (Kd.int .u8) none 0 ([] : List Int) :: Ro.sl (Kd.int .u8) (some ⟨g406, 0, none⟩) 2 l407 :: Ro.sl (Kd.int .u8) (some ⟨g406, 0, none⟩) 2 l407 :: rs) := hS.re [] [] rfl (sub_cons 0 rfl sub_self)
  obtain ⟨t463, t464, hc468, H⟩ := b2_out H
  refine EL.of (EO.callD 15 [.slice none ([] : List Int).length 0, .int .u64 7] _ 19 (by kernel_rfl) (by kernel_rfl) (by kernel_rfl) (confidantref15_NewPicks.calls hc468 hS) ?_)
  rintro v w ⟨g465, A466, C467, rfl, hS⟩
  refine EL.quick 1 [2, 3, 4, 5, 6] [(2, .int .i64 t429), (3, .int .i64 t435), (4, .int .i64 t443), (5, .int .i64 t453), (6, .pointer (some ⟨g465, 0, none⟩))] (by kernel_rfl) ?_
  refine EL.done (by kernel_rfl) ?_
  refine EQ.code ?_
  refine EW.seq (x := Cd13.r.r.r.r.r.r.r.l) (y := Cd13.r.r.r.r.r.r.r.r) (by kernel_rfl) ?_
  refine EW.region (id := 8) (ops := Cd13.r.r.r.r.r.r.r.l.ops) (by kernel_rfl) ?_
  refine EL.quick 3 [3, 4, 5, 6, 22] [(3, .int .i64 t435), (4, .int .i64 t443), (5, .int .i64 t453), (6, .pointer (some ⟨g465, 0, none⟩)), (22, .bool (decide (t429 = 1)))] (by kernel_rfl) ?_
  by_cases h469 : t429 = 1
  · rw [if_pos h469] at H
    refine EL.keep [3, 4, 5, 6, 22] [(3, .int .i64 t435), (4, .int .i64 t443), (5, .int .i64 t453), (6, .pointer (some ⟨g465, 0, none⟩)), (22, .bool (decide (t429 = 1)))] (by kernel_rfl) ?_
    refine EL.as' [(3, .int .i64 t435), (4, .int .i64 t443), (5, .int .i64 t453), (6, .pointer (some ⟨g465, 0, none⟩)), (22, .bool (true))] (by simp only [dec_t h469, Bool.not_true, Bool.not_false]) ?_
    refine EL.quick 4 [4, 5, 6, 26] [(4, .int .i64 t443), (5, .int .i64 t453), (6, .pointer (some ⟨g465, 0, none⟩)), (26, .bool (decide (t435 = 0)))] (by kernel_rfl) ?_
    by_cases h470 : t435 = 0
    · rw [if_pos h470] at H
      refine EL.keep [4, 5, 6, 26] [(4, .int .i64 t443), (5, .int .i64 t453), (6, .pointer (some ⟨g465, 0, none⟩)), (26, .bool (decide (t435 = 0)))] (by kernel_rfl) ?_
      refine EL.as' [(4, .int .i64 t443), (5, .int .i64 t453), (6, .pointer (some ⟨g465, 0, none⟩)), (26, .bool (true))] (by simp only [dec_t h470, Bool.not_true, Bool.not_false]) ?_
      refine EL.quick 4 [5, 6, 30] [(5, .int .i64 t453), (6, .pointer (some ⟨g465, 0, none⟩)), (30, .bool (decide (t443 = 0)))] (by kernel_rfl) ?_
      by_cases h471 : t443 = 0
      · rw [if_pos h471] at H
        refine EL.keep [5, 6, 30] [(5, .int .i64 t453), (6, .pointer (some ⟨g465, 0, none⟩)), (30, .bool (decide (t443 = 0)))] (by kernel_rfl) ?_
        refine EL.as' [(5, .int .i64 t453), (6, .pointer (some ⟨g465, 0, none⟩)), (30, .bool (true))] (by simp only [dec_t h471, Bool.not_true, Bool.not_false]) ?_
        refine EL.quick 2 [30, 31, 32] [(30, .bool (true)), (31, .int .i64 t453), (32, .pointer (some ⟨g465, 0, none⟩))] (by kernel_rfl) ?_
        have hS : St B _ (Ass.box 33 g465 [.slice A466 t463.length C467, .int .u64 t464] :: Ass.box 103 g411 [.int .u64 t451] :: Ass.box 89 g410 [.slice A454 t452.length C455, .func (.func 46) #[.pointer (some ⟨g411, 0, none⟩)] #[]] :: Ass.own 5 (Kd.int .u8) A454 C455 t452 :: os) (Ro.sl (Kd.int .u8) A466 C467 t463 :: Ro.sl (Kd.int .u8) A466 C467 t463 :: Ro.sl (Kd.int .u8) none 0 ([] : List Int) :: Ro.sl (Kd.int .u8) none 0 ([] : List Int) :: Ro.sl (Kd.int .u8) (some ⟨g406, 0, none⟩) 2 l407 :: Ro.sl (Kd.int .u8) (some ⟨g406, 0, none⟩) 2 l407 :: rs) := hS.re [0] [] rfl (sub_cons 0 rfl sub_self)
        obtain ⟨t472, t473, t474, hc477, H⟩ := b3_out H
        refine EL.of (EO.callD 17 [.pointer (some ⟨g465, 0, none⟩), .int .i64 4] _ 33 (by kernel_rfl) (by kernel_rfl) (by kernel_rfl) (confidantref15_Picks_Next.calls hc477 hS) ?_)
        rintro v w ⟨A475, C476, rfl, hS⟩
        refine EL.quick 3 [36] [(36, .bool (decide (t453 = t474)))] (by kernel_rfl) ?_
        by_cases h478 : t453 = t474
        · rw [if_pos h478] at H
          refine EL.keep [36] [(36, .bool (decide (t453 = t474)))] (by kernel_rfl) ?_
          refine EL.as' [(36, .bool (true))] (by simp only [dec_t h478, Bool.not_true, Bool.not_false]) ?_
          obtain ⟨l480, hl480, H⟩ := lt_out H
          refine EL.of (EO.lit hS (Kd.int .u8) 5 22 1 #[(0, .int .u8 1)] [.int .u8 1] l480 37 (by kernel_rfl) (by kernel_rfl) (by kernel_rfl) (fun _ => (by kernel_rfl)) (by rw [hl480]; rfl) (by kernel_rfl) (fun w G hr => (by rw [hl480]; exact ⟨[.int .u8 1], [], rfl, rfl, rfl⟩)) ?_)
          intro g479 w hS
          have hS := St.fr hS 0 rfl
          have hS : St B _ (Ass.box 33 g465 [.slice A475 t472.length C476, .int .u64 t473] :: Ass.box 103 g411 [.int .u64 t451] :: Ass.box 89 g410 [.slice A454 t452.length C455, .func (.func 46) #[.pointer (some ⟨g411, 0, none⟩)] #[]] :: Ass.own 5 (Kd.int .u8) A454 C455 t452 :: os) (Ro.sl (Kd.int .u8) (some ⟨g479, 0, none⟩) 1 l480 :: Ro.sl (Kd.int .u8) (some ⟨g479, 0, none⟩) 1 l480 :: Ro.sl (Kd.int .u8) A475 C476 t472 :: Ro.sl (Kd.int .u8) A466 C467 t463 :: Ro.sl (Kd.int .u8) A466 C467 t463 :: Ro.sl (Kd.int .u8) none 0 ([] : List Int) :: Ro.sl (Kd.int .u8) none 0 ([] : List Int) :: Ro.sl (Kd.int .u8) (some ⟨g406, 0, none⟩) 2 l407 :: Ro.sl (Kd.int .u8) (some ⟨g406, 0, none⟩) 2 l407 :: rs) := hS.re [] [] rfl (sub_cons 0 rfl sub_self)
          obtain ⟨t481, t482, hc487, H⟩ := b2_out H
          refine EL.of (EO.callD 14 [.slice (some ⟨g479, 0, none⟩) l480.length 1, .int .u64 0] _ 38 (by kernel_rfl) (by kernel_rfl) (by kernel_rfl) (picks_New.calls hc487 hS) ?_)
          rintro v w ⟨g483, g484, A485, C486, rfl, hS⟩
          have hS : St B _ (Ass.box 89 g483 [.slice A485 t481.length C486, .func (.func 46) #[.pointer (some ⟨g484, 0, none⟩)] #[]] :: Ass.own 5 (Kd.int .u8) A485 C486 t481 :: Ass.box 103 g484 [.int .u64 t482] :: Ass.box 33 g465 [.slice A475 t472.length C476, .int .u64 t473] :: Ass.box 103 g411 [.int .u64 t451] :: Ass.box 89 g410 [.slice A454 t452.length C455, .func (.func 46) #[.pointer (some ⟨g411, 0, none⟩)] #[]] :: Ass.own 5 (Kd.int .u8) A454 C455 t452 :: os) (Ro.sl (Kd.int .u8) (some ⟨g479, 0, none⟩) 1 l480 :: Ro.sl (Kd.int .u8) (some ⟨g479, 0, none⟩) 1 l480 :: Ro.sl (Kd.int .u8) A475 C476 t472 :: Ro.sl (Kd.int .u8) A466 C467 t463 :: Ro.sl (Kd.int .u8) A466 C467 t463 :: Ro.sl (Kd.int .u8) none 0 ([] : List Int) :: Ro.sl (Kd.int .u8) none 0 ([] : List Int) :: Ro.sl (Kd.int .u8) (some ⟨g406, 0, none⟩) 2 l407 :: Ro.sl (Kd.int .u8) (some ⟨g406, 0, none⟩) 2 l407 :: rs) := hS.re [1, 2, 2] [] rfl sub_self
          obtain ⟨t488, t489, hc490, H⟩ := b2_out H
          refine EL.of (EO.callD 18 [.pointer (some ⟨g483, 0, none⟩)] _ 39 (by kernel_rfl) (by kernel_rfl) (by kernel_rfl) (picks_Picks_Left.calls hc490 hS) ?_)
          rintro v w ⟨rfl, hS⟩
          refine EL.quick 3 [0] [(0, .bool (decide (t489 = 1)))] (by kernel_rfl) ?_
          refine EL.done (by kernel_rfl) ?_
          refine EQ.code ?_
          refine EW.ret (by kernel_rfl) ?_
          obtain rfl := Option.some.inj H
          exact EQ.leave (.bool (decide (t489 = 1))) (by kernel_rfl) ⟨_, rfl, rfl, (hS.re [] [0, 0, 0, 0, 0, 0, 0] rfl (sub_tail (sub_tail (sub_tail (sub_tail (sub_tail (sub_tail (sub_tail (sub_tail (sub_tail (sub_self)))))))))))⟩
        · rw [if_neg h478] at H
          refine EL.keep [36] [(36, .bool (decide (t453 = t474)))] (by kernel_rfl) ?_
          refine EL.as' [(36, .bool (false))] (by simp only [dec_f h478, Bool.not_true, Bool.not_false]) ?_
          refine EL.quick 6 [0] [(0, .bool (false))] (by kernel_rfl) ?_
          refine EL.done (by kernel_rfl) ?_
          refine EQ.code ?_
          refine EW.ret (by kernel_rfl) ?_
          obtain rfl := Option.some.inj H
          exact EQ.leave (.bool (false)) (by kernel_rfl) ⟨_, rfl, rfl, (hS.re [] [0, 0, 0, 0] rfl (sub_tail (sub_tail (sub_tail (sub_tail (sub_tail (sub_tail (sub_tail (sub_self)))))))))⟩
      · rw [if_neg h471] at H
        refine EL.keep [5, 6, 30] [(5, .int .i64 t453), (6, .pointer (some ⟨g465, 0, none⟩)), (30, .bool (decide (t443 = 0)))] (by kernel_rfl) ?_
        refine EL.as' [(5, .int .i64 t453), (6, .pointer (some ⟨g465, 0, none⟩)), (30, .bool (false))] (by simp only [dec_f h471, Bool.not_true, Bool.not_false]) ?_
        refine EL.quick 12 [0] [(0, .bool (false))] (by kernel_rfl) ?_
        refine EL.done (by kernel_rfl) ?_
        refine EQ.code ?_
        refine EW.ret (by kernel_rfl) ?_
        obtain rfl := Option.some.inj H
        exact EQ.leave (.bool (false)) (by kernel_rfl) ⟨_, rfl, rfl, (hS.re [] [0, 0, 0, 0] rfl (sub_tail (sub_tail (sub_tail (sub_tail (sub_tail (sub_self)))))))⟩
    · rw [if_neg h470] at H
      refine EL.keep [4, 5, 6, 26] [(4, .int .i64 t443), (5, .int .i64 t453), (6, .pointer (some ⟨g465, 0, none⟩)), (26, .bool (decide (t435 = 0)))] (by kernel_rfl) ?_
      refine EL.as' [(4, .int .i64 t443), (5, .int .i64 t453), (6, .pointer (some ⟨g465, 0, none⟩)), (26, .bool (false))] (by simp only [dec_f h470, Bool.not_true, Bool.not_false]) ?_
      refine EL.quick 16 [0] [(0, .bool (false))] (by kernel_rfl) ?_
      refine EL.done (by kernel_rfl) ?_
      refine EQ.code ?_
      refine EW.ret (by kernel_rfl) ?_
      obtain rfl := Option.some.inj H
      exact EQ.leave (.bool (false)) (by kernel_rfl) ⟨_, rfl, rfl, (hS.re [] [0, 0, 0, 0] rfl (sub_tail (sub_tail (sub_tail (sub_tail (sub_tail (sub_self)))))))⟩
  · rw [if_neg h469] at H
    refine EL.keep [3, 4, 5, 6, 22] [(3, .int .i64 t435), (4, .int .i64 t443), (5, .int .i64 t453), (6, .pointer (some ⟨g465, 0, none⟩)), (22, .bool (decide (t429 = 1)))] (by kernel_rfl) ?_
    refine EL.as' [(3, .int .i64 t435), (4, .int .i64 t443), (5, .int .i64 t453), (6, .pointer (some ⟨g465, 0, none⟩)), (22, .bool (false))] (by simp only [dec_f h469, Bool.not_true, Bool.not_false]) ?_
    refine EL.quick 20 [0] [(0, .bool (false))] (by kernel_rfl) ?_
    refine EL.done (by kernel_rfl) ?_
    refine EQ.code ?_
    refine EW.ret (by kernel_rfl) ?_
    obtain rfl := Option.some.inj H
    exact EQ.leave (.bool (false)) (by kernel_rfl) ⟨_, rfl, rfl, (hS.re [] [0, 0, 0, 0] rfl (sub_tail (sub_tail (sub_tail (sub_tail (sub_tail (sub_self)))))))⟩

/-! ### confidant/confidantlaw17.PicksTell: function 3 -/
def confidantlaw17_PicksTell.l0 (K : Nat) (l12 : List Int) : Nat → (List Int) → Int → (List Int) → Int → Int → Option Bool
  | 0, _, _, _, _, _ => none
  | n + 1, x1199, x1202, x1203, x1206, x1207 => if x1207 < (l12.length : Int) then (if 0 ≤ x1207 then (lt (fun (x1441 : Int) => (b3 (picks_Picks_Next.f K x1203 x1206 x1441) fun (t1450 : Int) (t1451 : List Int) (t1452 : Int) => (lt (fun (x1482 : Int) (x1483 : List Int) (x1486 : Int) (x1487 : Bool) => (if x1487 = true then (some false) else (confidantlaw17_PicksTell.l0 K l12 n x1483 x1486 t1451 x1482 (IntKind.i64.wrap (x1207 + 1))))) fun j1488 => (b3 (confidantref15_Picks_Next.f K x1199 x1202 x1441) fun (t1489 : List Int) (t1490 : Int) (t1491 : Int) => (if t1452 = t1491 then (b2 (picks_Picks_Left.f K t1451 t1450) fun (t1496 : Int) (t1497 : Int) => (if t1497 = (t1489.length : Int) then (if t1452 < 0 then (j1488 t1496 t1489 t1490 true) else (j1488 t1496 t1489 t1490 (decide (t1452 ≥ (mx x1441 1))))) else (j1488 t1496 t1489 t1490 true))) else (j1488 t1450 t1489 t1490 true)))))) fun j1442 => (if (Int.tmod x1207 3) > 0 then (j1442 (IntKind.i64.wrap ((bA .i64 (l12.getD x1207.toNat 0) 7) + 1))) else (j1442 (l12.getD x1207.toNat 0)))) else none) else (some true)
def confidantlaw17_PicksTell.f (K : Nat) (l8 : List Int) (a11 : Int) (l12 : List Int) : Option Bool := b1 (confidantlaw17_known.f K) fun (t1004 : Bool) => (if t1004 = true then (lt (fun (x1017 : Bool) => (if x1017 = true then (some true) else (b2 (picks_New.f K l8 a11) fun (t1034 : List Int) (t1035 : Int) => (b2 (confidantref15_NewPicks.f K l8 a11) fun (t1041 : List Int) (t1042 : Int) => (confidantlaw17_PicksTell.l0 K l12 K t1041 t1042 t1034 t1035 0))))) fun j1018 => (if (l8.length : Int) > 40 then (j1018 true) else (j1018 (decide ((l12.length : Int) > 60))))) else (some false))
set_option maxRecDepth 100000 in
theorem confidantlaw17_PicksTell.calls {K : Nat} {l8 : List Int} {a11 : Int} {l12 : List Int} {A9 : Option Addr} {C10 : Nat} {A13 : Option Addr} {C14 : Nat} {x996 : Bool} {B w : World} {os : List Ass} {rs : List Ro} (H : confidantlaw17_PicksTell.f K l8 a11 l12 = some x996) (hS : St B w (os) (Ro.sl (Kd.int .u8) A9 C10 l8 :: Ro.sl (Kd.int .i64) A13 C14 l12 :: rs)) :
    Calls Try.prog 3 [.slice A9 l8.length C10, .int .u64 a11, .slice A13 l12.length C14].toArray w (fun en w' => ∃ v, en = .returned v ∧ v = .bool (x996) ∧ St B w' (os) (Ro.sl (Kd.int .u8) A9 C10 l8 :: Ro.sl (Kd.int .i64) A13 C14 l12 :: rs)) := by
  unfold confidantlaw17_PicksTell.f at H
  refine calls_of_EW (args := [.slice A9 l8.length C10, .int .u64 a11, .slice A13 l12.length C14]) (c := Cd3) 72 Try.func3 (by kernel_rfl) (by kernel_rfl) (by kernel_rfl) ?_
  refine EW.seq (x := Cd3.l) (y := Cd3.r) (by kernel_rfl) ?_
  refine EW.region (id := 0) (ops := Cd3.l.ops) (by kernel_rfl) ?_
  refine EL.quick 1 [0, 1, 2] [(0, .slice A9 l8.length C10), (1, .int .u64 a11), (2, .slice A13 l12.length C14)] (by kernel_rfl) ?_
  refine EL.done (by kernel_rfl) ?_
  refine EQ.code ?_
  refine EW.seq (x := Cd3.r.l) (y := Cd3.r.r) (by kernel_rfl) ?_
  refine EW.seq (x := Cd3.r.l.l) (y := Cd3.r.l.r) (by kernel_rfl) ?_
  refine EW.region (id := 1) (ops := Cd3.r.l.l.ops) (by kernel_rfl) ?_
  obtain ⟨t1004, hc1005, H⟩ := b1_out H
  refine EL.of (EO.callD 13 [] _ 12 (by kernel_rfl) (by kernel_rfl) (by kernel_rfl) (confidantlaw17_known.calls hc1005 hS) ?_)
  rintro v w ⟨rfl, hS⟩
  refine EL.quick 1 [0, 1, 2, 13] [(0, .slice A9 l8.length C10), (1, .int .u64 a11), (2, .slice A13 l12.length C14), (13, .bool (!(t1004)))] (by kernel_rfl) ?_
  refine EL.done (by kernel_rfl) ?_
  refine EQ.code ?_
  refine EW.condQ (b := !(t1004)) (o := (.tmp 13)) (x := Cd3.r.l.r.l) (y := Cd3.r.l.r.r) (t1004 = true) (false) (by kernel_rfl) (by kernel_rfl) ⟨fun h => (by rw [h] <;> rfl), fun h => (by rw [Bool.eq_false_iff.2 h] <;> rfl)⟩ (fun h1006 => ?_) (fun h1006 => ?_)
  · rw [if_pos h1006] at H
    refine EW.skip (by kernel_rfl) ?_
    refine EQ.code ?_
    refine EW.seq (x := Cd3.r.r.l) (y := Cd3.r.r.r) (by kernel_rfl) ?_
    obtain ⟨j1018, hj1018, H⟩ := lt_out H
    refine EW.cut (x := Cd3.r.r.l.l) (y := Cd3.r.r.l.r) (fun a w => ∃ x1017 : Bool, Sat 72 [(0, .slice A9 l8.length C10), (1, .int .u64 a11), (2, .slice A13 l12.length C14), (21, .bool (x1017))] a ∧ St B w (os) (Ro.sl (Kd.int .u8) A9 C10 l8 :: Ro.sl (Kd.int .i64) A13 C14 l12 :: rs) ∧ j1018 x1017 = some x996) (by kernel_rfl) ?_ (fun a w hI => ?_)
    · refine EW.region (id := 3) (ops := Cd3.r.r.l.l.ops) (by kernel_rfl) ?_
      refine EL.quick 4 [0, 1, 2, 17] [(0, .slice A9 l8.length C10), (1, .int .u64 a11), (2, .slice A13 l12.length C14), (17, .bool (decide ((l8.length : Int) > 40)))] (by kernel_rfl) ?_
      by_cases h1019 : (l8.length : Int) > 40
      · rw [if_pos h1019] at H
        refine EL.keep [0, 1, 2, 17] [(0, .slice A9 l8.length C10), (1, .int .u64 a11), (2, .slice A13 l12.length C14), (17, .bool (decide ((l8.length : Int) > 40)))] (by kernel_rfl) ?_
        refine EL.as' [(0, .slice A9 l8.length C10), (1, .int .u64 a11), (2, .slice A13 l12.length C14), (17, .bool (true))] (by simp only [dec_t h1019, Bool.not_true, Bool.not_false]) ?_
        refine EL.quick 4 [0, 1, 2, 21] [(0, .slice A9 l8.length C10), (1, .int .u64 a11), (2, .slice A13 l12.length C14), (21, .bool (true))] (by kernel_rfl) ?_
        refine EL.done (by kernel_rfl) ?_
        refine EQ.to ?_
        refine EQ.keep [0, 1, 2, 21] [(0, .slice A9 l8.length C10), (1, .int .u64 a11), (2, .slice A13 l12.length C14), (21, .bool (true))] (by kernel_rfl) ?_
        exact fun a ha => ⟨true, ha, (hS.re [] [] rfl (sub_cons 0 rfl (sub_cons 1 rfl (sub_tail (sub_tail (sub_self)))))), H⟩
      · rw [if_neg h1019] at H
        refine EL.keep [0, 1, 2, 17] [(0, .slice A9 l8.length C10), (1, .int .u64 a11), (2, .slice A13 l12.length C14), (17, .bool (decide ((l8.length : Int) > 40)))] (by kernel_rfl) ?_
        refine EL.as' [(0, .slice A9 l8.length C10), (1, .int .u64 a11), (2, .slice A13 l12.length C14), (17, .bool (false))] (by simp only [dec_f h1019, Bool.not_true, Bool.not_false]) ?_
        refine EL.quick 4 [0, 1, 2, 21] [(0, .slice A9 l8.length C10), (1, .int .u64 a11), (2, .slice A13 l12.length C14), (21, .bool (decide ((l12.length : Int) > 60)))] (by kernel_rfl) ?_
        refine EL.done (by kernel_rfl) ?_
        refine EQ.to ?_
        refine EQ.keep [0, 1, 2, 21] [(0, .slice A9 l8.length C10), (1, .int .u64 a11), (2, .slice A13 l12.length C14), (21, .bool (decide ((l12.length : Int) > 60)))] (by kernel_rfl) ?_
        exact fun a ha => ⟨decide ((l12.length : Int) > 60), ha, (hS.re [] [] rfl (sub_cons 0 rfl (sub_cons 1 rfl (sub_tail (sub_tail (sub_self)))))), H⟩
    · obtain ⟨x1017, ha, hS, H⟩ := hI
      rw [hj1018] at H
      (try dsimp only at H)
      refine EW.at ?_ a ha
      clear ha a
      refine EW.condP' (o := (.tmp 21)) (x := Cd3.r.r.l.r.l) (y := Cd3.r.r.l.r.r) (x1017) (by kernel_rfl) (by kernel_rfl) (fun h1020 => ?_) (fun h1020 => ?_)
      · rw [if_pos h1020] at H
        refine EW.seq (x := Cd3.r.r.l.r.l.l) (y := Cd3.r.r.l.r.l.r) (by kernel_rfl) ?_
        refine EW.region (id := 4) (ops := Cd3.r.r.l.r.l.l.ops) (by kernel_rfl) ?_
        refine EL.quick 1 [6] [(6, .bool (true))] (by kernel_rfl) ?_
        refine EL.done (by kernel_rfl) ?_
        refine EQ.code ?_
        refine EW.ret (by kernel_rfl) ?_
        refine EQ.ret ?_
        obtain rfl := Option.some.inj H
        exact EQ.leave (.bool (true)) (by kernel_rfl) ⟨_, rfl, rfl, (hS.re [] [] rfl (sub_self))⟩
      · rw [if_neg h1020] at H
        refine EW.skip (by kernel_rfl) ?_
        refine EQ.code ?_
        refine EW.seq (x := Cd3.r.r.r.l) (y := Cd3.r.r.r.r) (by kernel_rfl) ?_
        refine EW.region (id := 5) (ops := Cd3.r.r.r.l.ops) (by kernel_rfl) ?_
        refine EL.quick 2 [0, 1, 2, 22, 23] [(0, .slice A9 l8.length C10), (1, .int .u64 a11), (2, .slice A13 l12.length C14), (22, .slice A9 l8.length C10), (23, .int .u64 a11)] (by kernel_rfl) ?_
        have hS : St B _ (os) (Ro.sl (Kd.int .u8) A9 C10 l8 :: Ro.sl (Kd.int .u8) A9 C10 l8 :: Ro.sl (Kd.int .i64) A13 C14 l12 :: rs) := hS.re [] [] rfl (sub_cons 0 rfl sub_self)
        obtain ⟨t1034, t1035, hc1040, H⟩ := b2_out H
        refine EL.of (EO.callD 14 [.slice A9 l8.length C10, .int .u64 a11] _ 24 (by kernel_rfl) (by kernel_rfl) (by kernel_rfl) (picks_New.calls hc1040 hS) ?_)
        rintro v w ⟨g1036, g1037, A1038, C1039, rfl, hS⟩
        refine EL.quick 2 [2, 24, 25, 26] [(2, .slice A13 l12.length C14), (24, .pointer (some ⟨g1036, 0, none⟩)), (25, .slice A9 l8.length C10), (26, .int .u64 a11)] (by kernel_rfl) ?_
        have hS : St B _ (Ass.box 89 g1036 [.slice A1038 t1034.length C1039, .func (.func 46) #[.pointer (some ⟨g1037, 0, none⟩)] #[]] :: Ass.box 103 g1037 [.int .u64 t1035] :: Ass.own 5 (Kd.int .u8) A1038 C1039 t1034 :: os) (Ro.sl (Kd.int .u8) A9 C10 l8 :: Ro.sl (Kd.int .u8) A9 C10 l8 :: Ro.sl (Kd.int .u8) A9 C10 l8 :: Ro.sl (Kd.int .i64) A13 C14 l12 :: rs) := hS.re [] [] rfl (sub_cons 0 rfl sub_self)
        obtain ⟨t1041, t1042, hc1046, H⟩ := b2_out H
        refine EL.of (EO.callD 15 [.slice A9 l8.length C10, .int .u64 a11] _ 27 (by kernel_rfl) (by kernel_rfl) (by kernel_rfl) (confidantref15_NewPicks.calls hc1046 hS) ?_)
        rintro v w ⟨g1043, A1044, C1045, rfl, hS⟩
        refine EL.quick 2 [2, 7, 8] [(2, .slice A13 l12.length C14), (7, .pointer (some ⟨g1036, 0, none⟩)), (8, .pointer (some ⟨g1043, 0, none⟩))] (by kernel_rfl) ?_
        refine EL.done (by kernel_rfl) ?_
        refine EQ.code ?_
        refine EW.seq (x := Cd3.r.r.r.r.l) (y := Cd3.r.r.r.r.r) (by kernel_rfl) ?_
        refine EW.seq (x := Cd3.r.r.r.r.l.l) (y := Cd3.r.r.r.r.l.r) (by kernel_rfl) ?_
        refine EW.region (id := 6) (ops := Cd3.r.r.r.r.l.l.ops) (by kernel_rfl) ?_
        refine EL.quick 1 [2, 7, 8, 9] [(2, .slice A13 l12.length C14), (7, .pointer (some ⟨g1036, 0, none⟩)), (8, .pointer (some ⟨g1043, 0, none⟩)), (9, .int .i64 0)] (by kernel_rfl) ?_
        refine EL.done (by kernel_rfl) ?_
        refine EQ.code ?_
        refine EW.block (x := Cd3.r.r.r.r.l.r.l) (id := 0) (by kernel_rfl) ?_
        refine EW.loop (x := Cd3.r.r.r.r.l.r.l.l) (fun n a w => ∃ x1199 : List Int, ∃ x1202 : Int, ∃ x1203 : List Int, ∃ x1206 : Int, ∃ x1207 : Int, ∃ A1200 : Option Addr, ∃ C1201 : Nat, ∃ A1204 : Option Addr, ∃ C1205 : Nat, Sat 72 [(2, .slice A13 l12.length C14), (7, .pointer (some ⟨g1036, 0, none⟩)), (8, .pointer (some ⟨g1043, 0, none⟩)), (9, .int .i64 x1207)] a ∧ St B w (Ass.box 33 g1043 [.slice A1200 x1199.length C1201, .int .u64 x1202] :: Ass.box 89 g1036 [.slice A1204 x1203.length C1205, .func (.func 46) #[.pointer (some ⟨g1037, 0, none⟩)] #[]] :: Ass.box 103 g1037 [.int .u64 x1206] :: Ass.own 5 (Kd.int .u8) A1204 C1205 x1203 :: os) (Ro.sl (Kd.int .u8) A1200 C1201 x1199 :: Ro.sl (Kd.int .u8) A1044 C1045 t1041 :: Ro.sl (Kd.int .u8) A9 C10 l8 :: Ro.sl (Kd.int .u8) A9 C10 l8 :: Ro.sl (Kd.int .u8) A9 C10 l8 :: Ro.sl (Kd.int .i64) A13 C14 l12 :: rs) ∧ confidantlaw17_PicksTell.l0 K l12 n x1199 x1202 x1203 x1206 x1207 = some x996) K (by kernel_rfl) ?_ (fun n a w hI => ?_)
        · refine EQ.keep [2, 7, 8, 9] [(2, .slice A13 l12.length C14), (7, .pointer (some ⟨g1036, 0, none⟩)), (8, .pointer (some ⟨g1043, 0, none⟩)), (9, .int .i64 0)] (by kernel_rfl) ?_
          exact fun a ha => ⟨t1041, t1042, t1034, t1035, 0, A1044, C1045, A1038, C1039, ha, (hS.re [3, 3, 3, 3] [] rfl (sub_cons 0 rfl (sub_cons 0 rfl (sub_cons 1 rfl (sub_cons 1 rfl (sub_cons 1 rfl (sub_cons 4 rfl (sub_tail (sub_tail (sub_tail (sub_tail (sub_tail (sub_self))))))))))))), H⟩
        · obtain ⟨x1199, x1202, x1203, x1206, x1207, A1200, C1201, A1204, C1205, ha, hS, H⟩ := hI
          obtain _ | n := n
          · simp [confidantlaw17_PicksTell.l0] at H
          rw [confidantlaw17_PicksTell.l0.eq_2] at H
          refine EW.at ?_ a ha
          clear ha a
          refine EW.seq (x := Cd3.r.r.r.r.l.r.l.l.l) (y := Cd3.r.r.r.r.l.r.l.l.r) (by kernel_rfl) ?_
          refine EW.seq (x := Cd3.r.r.r.r.l.r.l.l.l.l) (y := Cd3.r.r.r.r.l.r.l.l.l.r) (by kernel_rfl) ?_
          refine EW.region (id := 7) (ops := Cd3.r.r.r.r.l.r.l.l.l.l.ops) (by kernel_rfl) ?_
          refine EL.quick 4 [2, 7, 8, 9, 31] [(2, .slice A13 l12.length C14), (7, .pointer (some ⟨g1036, 0, none⟩)), (8, .pointer (some ⟨g1043, 0, none⟩)), (9, .int .i64 x1207), (31, .bool (decide (x1207 < (l12.length : Int))))] (by kernel_rfl) ?_
          refine EL.done (by kernel_rfl) ?_
          refine EQ.code ?_
          refine EW.condP (o := (.tmp 31)) (x := Cd3.r.r.r.r.l.r.l.l.l.r.l) (y := Cd3.r.r.r.r.l.r.l.l.l.r.r) (x1207 < (l12.length : Int)) (by kernel_rfl) (by kernel_rfl) (fun h1365 => ?_) (fun h1365 => ?_)
          · rw [if_pos h1365] at H
            refine EW.skip (by kernel_rfl) ?_
            refine EQ.code ?_
            refine EW.seq (x := Cd3.r.r.r.r.l.r.l.l.r.l) (y := Cd3.r.r.r.r.l.r.l.l.r.r) (by kernel_rfl) ?_
            refine EW.block (x := Cd3.r.r.r.r.l.r.l.l.r.l.l) (id := 1) (by kernel_rfl) ?_
            refine EW.seq (x := Cd3.r.r.r.r.l.r.l.l.r.l.l.l) (y := Cd3.r.r.r.r.l.r.l.l.r.l.l.r) (by kernel_rfl) ?_
            refine EW.region (id := 9) (ops := Cd3.r.r.r.r.l.r.l.l.r.l.l.l.ops) (by kernel_rfl) ?_
            refine EL.quick 2 [2, 7, 8, 9, 34, 35] [(2, .slice A13 l12.length C14), (7, .pointer (some ⟨g1036, 0, none⟩)), (8, .pointer (some ⟨g1043, 0, none⟩)), (9, .int .i64 x1207), (34, .slice A13 l12.length C14), (35, .int .i64 x1207)] (by kernel_rfl) ?_
            obtain ⟨h1436, H⟩ := ite_in H
            obtain ⟨ad1437, rfl⟩ := St.rd_some hS (Rd.ro 5 rfl) h1436 h1365
            refine EL.of (EO.Y (YO.idx 24 1 ad1437 l12.length C14 .i64 x1207 36 (by kernel_rfl) (by kernel_rfl) (by kernel_rfl) (by kernel_rfl) h1436 h1365) ?_)
            refine EL.of (EO.Y (YO.loadEl hS (Kd.int .i64) ad1437 C14 l12 (Rd.ro 5 rfl) 0 (encI .i64) encI_of x1207 h1436 h1365 3 1 0 1 rfl (.int .i64 (l12.getD x1207.toNat 0)) 37 (by kernel_rfl) (by kernel_rfl) (by kernel_rfl) (by kernel_rfl)) ?_)
            refine EL.quick 1 [2, 7, 8, 9, 10] [(2, .slice (some ad1437) l12.length C14), (7, .pointer (some ⟨g1036, 0, none⟩)), (8, .pointer (some ⟨g1043, 0, none⟩)), (9, .int .i64 x1207), (10, .int .i64 (l12.getD x1207.toNat 0))] (by kernel_rfl) ?_
            refine EL.done (by kernel_rfl) ?_
            refine EQ.code ?_
            obtain ⟨j1442, hj1442, H⟩ := lt_out H
            refine EW.cut (x := Cd3.r.r.r.r.l.r.l.l.r.l.l.r.l) (y := Cd3.r.r.r.r.l.r.l.l.r.l.l.r.r) (fun a w => ∃ x1441 : Int, Sat 72 [(2, .slice (some ad1437) l12.length C14), (7, .pointer (some ⟨g1036, 0, none⟩)), (8, .pointer (some ⟨g1043, 0, none⟩)), (9, .int .i64 x1207), (10, .int .i64 x1441)] a ∧ St B w (Ass.box 33 g1043 [.slice A1200 x1199.length C1201, .int .u64 x1202] :: Ass.box 89 g1036 [.slice A1204 x1203.length C1205, .func (.func 46) #[.pointer (some ⟨g1037, 0, none⟩)] #[]] :: Ass.box 103 g1037 [.int .u64 x1206] :: Ass.own 5 (Kd.int .u8) A1204 C1205 x1203 :: os) (Ro.sl (Kd.int .u8) A1200 C1201 x1199 :: Ro.sl (Kd.int .u8) A1044 C1045 t1041 :: Ro.sl (Kd.int .u8) A9 C10 l8 :: Ro.sl (Kd.int .u8) A9 C10 l8 :: Ro.sl (Kd.int .u8) A9 C10 l8 :: Ro.sl (Kd.int .i64) (some ad1437) C14 l12 :: rs) ∧ j1442 x1441 = some x996) (by kernel_rfl) ?_ (fun a w hI => ?_)
            · refine EW.seq (x := Cd3.r.r.r.r.l.r.l.l.r.l.l.r.l.l) (y := Cd3.r.r.r.r.l.r.l.l.r.l.l.r.l.r) (by kernel_rfl) ?_
              refine EW.region (id := 10) (ops := Cd3.r.r.r.r.l.r.l.l.r.l.l.r.l.l.ops) (by kernel_rfl) ?_
              refine EL.quick 3 [2, 7, 8, 9, 10, 40] [(2, .slice (some ad1437) l12.length C14), (7, .pointer (some ⟨g1036, 0, none⟩)), (8, .pointer (some ⟨g1043, 0, none⟩)), (9, .int .i64 x1207), (10, .int .i64 (l12.getD x1207.toNat 0)), (40, .bool (decide ((Int.tmod x1207 3) > 0)))] (by kernel_rfl) ?_
              refine EL.done (by kernel_rfl) ?_
              refine EQ.code ?_
              refine EW.condP (o := (.tmp 40)) (x := Cd3.r.r.r.r.l.r.l.l.r.l.l.r.l.r.l) (y := Cd3.r.r.r.r.l.r.l.l.r.l.l.r.l.r.r) ((Int.tmod x1207 3) > 0) (by kernel_rfl) (by kernel_rfl) (fun h1443 => ?_) (fun h1443 => ?_)
              · rw [if_pos h1443] at H
                refine EW.region (id := 11) (ops := Cd3.r.r.r.r.l.r.l.l.r.l.l.r.l.r.l.ops) (by kernel_rfl) ?_
                refine EL.quick 4 [2, 7, 8, 9, 10] [(2, .slice (some ad1437) l12.length C14), (7, .pointer (some ⟨g1036, 0, none⟩)), (8, .pointer (some ⟨g1043, 0, none⟩)), (9, .int .i64 x1207), (10, .int .i64 (IntKind.i64.wrap ((bA .i64 (l12.getD x1207.toNat 0) 7) + 1)))] (by kernel_rfl) ?_
                refine EL.done (by kernel_rfl) ?_
                refine EQ.to ?_
                refine EQ.keep [2, 7, 8, 9, 10] [(2, .slice (some ad1437) l12.length C14), (7, .pointer (some ⟨g1036, 0, none⟩)), (8, .pointer (some ⟨g1043, 0, none⟩)), (9, .int .i64 x1207), (10, .int .i64 (IntKind.i64.wrap ((bA .i64 (l12.getD x1207.toNat 0) 7) + 1)))] (by kernel_rfl) ?_
                exact fun a ha => ⟨IntKind.i64.wrap ((bA .i64 (l12.getD x1207.toNat 0) 7) + 1), ha, (hS.re [3, 3, 3, 3] [] rfl (sub_cons 0 rfl (sub_cons 1 rfl (sub_cons 2 rfl (sub_cons 2 rfl (sub_cons 2 rfl (sub_cons 5 rfl (sub_tail (sub_tail (sub_tail (sub_tail (sub_tail (sub_tail (sub_self)))))))))))))), H⟩
              · rw [if_neg h1443] at H
                refine EW.skip (by kernel_rfl) ?_
                refine EQ.to ?_
                refine EQ.keep [2, 7, 8, 9, 10] [(2, .slice (some ad1437) l12.length C14), (7, .pointer (some ⟨g1036, 0, none⟩)), (8, .pointer (some ⟨g1043, 0, none⟩)), (9, .int .i64 x1207), (10, .int .i64 (l12.getD x1207.toNat 0))] (by kernel_rfl) ?_
                exact fun a ha => ⟨(l12.getD x1207.toNat 0), ha, (hS.re [3, 3, 3, 3] [] rfl (sub_cons 0 rfl (sub_cons 1 rfl (sub_cons 2 rfl (sub_cons 2 rfl (sub_cons 2 rfl (sub_cons 5 rfl (sub_tail (sub_tail (sub_tail (sub_tail (sub_tail (sub_tail (sub_self)))))))))))))), H⟩
            · obtain ⟨x1441, ha, hS, H⟩ := hI
              rw [hj1442] at H
              (try dsimp only at H)
              refine EW.at ?_ a ha
              clear ha a
              refine EW.seq (x := Cd3.r.r.r.r.l.r.l.l.r.l.l.r.r.l) (y := Cd3.r.r.r.r.l.r.l.l.r.l.l.r.r.r) (by kernel_rfl) ?_
              refine EW.region (id := 12) (ops := Cd3.r.r.r.r.l.r.l.l.r.l.l.r.r.l.ops) (by kernel_rfl) ?_
              refine EL.quick 2 [2, 7, 8, 9, 10, 44, 45] [(2, .slice (some ad1437) l12.length C14), (7, .pointer (some ⟨g1036, 0, none⟩)), (8, .pointer (some ⟨g1043, 0, none⟩)), (9, .int .i64 x1207), (10, .int .i64 x1441), (44, .pointer (some ⟨g1036, 0, none⟩)), (45, .int .i64 x1441)] (by kernel_rfl) ?_
              have hS : St B _ (Ass.box 89 g1036 [.slice A1204 x1203.length C1205, .func (.func 46) #[.pointer (some ⟨g1037, 0, none⟩)] #[]] :: Ass.own 5 (Kd.int .u8) A1204 C1205 x1203 :: Ass.box 103 g1037 [.int .u64 x1206] :: Ass.box 33 g1043 [.slice A1200 x1199.length C1201, .int .u64 x1202] :: os) (Ro.sl (Kd.int .u8) A1200 C1201 x1199 :: Ro.sl (Kd.int .u8) A1044 C1045 t1041 :: Ro.sl (Kd.int .u8) A9 C10 l8 :: Ro.sl (Kd.int .u8) A9 C10 l8 :: Ro.sl (Kd.int .u8) A9 C10 l8 :: Ro.sl (Kd.int .i64) (some ad1437) C14 l12 :: rs) := hS.re [2, 3, 3] [] rfl sub_self
              obtain ⟨t1450, t1451, t1452, hc1455, H⟩ := b3_out H
              refine EL.of (EO.callD 16 [.pointer (some ⟨g1036, 0, none⟩), .int .i64 x1441] _ 46 (by kernel_rfl) (by kernel_rfl) (by kernel_rfl) (picks_Picks_Next.calls hc1455 hS) ?_)
              rintro v w ⟨A1453, C1454, rfl, hS⟩
              refine EL.quick 1 [2, 7, 8, 9, 10, 11] [(2, .slice (some ad1437) l12.length C14), (7, .pointer (some ⟨g1036, 0, none⟩)), (8, .pointer (some ⟨g1043, 0, none⟩)), (9, .int .i64 x1207), (10, .int .i64 x1441), (11, .int .i64 t1452)] (by kernel_rfl) ?_
              refine EL.done (by kernel_rfl) ?_
              refine EQ.code ?_
              obtain ⟨j1488, hj1488, H⟩ := lt_out H
              refine EW.cut (x := Cd3.r.r.r.r.l.r.l.l.r.l.l.r.r.r.l) (y := Cd3.r.r.r.r.l.r.l.l.r.l.l.r.r.r.r) (fun a w => ∃ x1482 : Int, ∃ x1483 : List Int, ∃ x1486 : Int, ∃ x1487 : Bool, ∃ A1484 : Option Addr, ∃ C1485 : Nat, Sat 72 [(2, .slice (some ad1437) l12.length C14), (7, .pointer (some ⟨g1036, 0, none⟩)), (8, .pointer (some ⟨g1043, 0, none⟩)), (9, .int .i64 x1207), (71, .bool (x1487))] a ∧ St B w (Ass.box 89 g1036 [.slice A1453 t1451.length C1454, .func (.func 46) #[.pointer (some ⟨g1037, 0, none⟩)] #[]] :: Ass.own 5 (Kd.int .u8) A1453 C1454 t1451 :: Ass.box 103 g1037 [.int .u64 x1482] :: Ass.box 33 g1043 [.slice A1484 x1483.length C1485, .int .u64 x1486] :: os) (Ro.sl (Kd.int .u8) A1484 C1485 x1483 :: Ro.sl (Kd.int .u8) A1200 C1201 x1199 :: Ro.sl (Kd.int .u8) A1200 C1201 x1199 :: Ro.sl (Kd.int .u8) A1044 C1045 t1041 :: Ro.sl (Kd.int .u8) A9 C10 l8 :: Ro.sl (Kd.int .u8) A9 C10 l8 :: Ro.sl (Kd.int .u8) A9 C10 l8 :: Ro.sl (Kd.int .i64) (some ad1437) C14 l12 :: rs) ∧ j1488 x1482 x1483 x1486 x1487 = some x996) (by kernel_rfl) ?_ (fun a w hI => ?_)
              · obtain ⟨t1489, t1490, t1491, hc1494, H⟩ := b3_out H
                by_cases h1495 : t1452 = t1491
                · rw [if_pos h1495] at H
                  obtain ⟨t1496, t1497, hc1498, H⟩ := b2_out H
                  by_cases h1499 : t1497 = (t1489.length : Int)
                  · rw [if_pos h1499] at H
                    by_cases h1500 : t1452 < 0
                    · rw [if_pos h1500] at H
                      refine EW.meet (id := 13) (ops := Cd3.r.r.r.r.l.r.l.l.r.l.l.r.r.r.l.ops) (fun a w => ∃ A1503 : Option Addr, ∃ C1504 : Nat, ∃ A1505 : Option Addr, ∃ C1506 : Nat, Sat 72 [(2, .slice (some ad1437) l12.length C14), (7, .pointer (some ⟨g1036, 0, none⟩)), (8, .pointer (some ⟨g1043, 0, none⟩)), (9, .int .i64 x1207), (53, .pointer (some ⟨g1036, 0, none⟩)), (54, .int .i64 t1497), (55, .pointer (some ⟨g1043, 0, none⟩)), (56, .pointer (some ⟨g1043, 0, none⟩)), (57, .pointer (some ⟨g1043, 0, none⟩)), (58, .slice A1505 t1489.length C1506), (59, .int .i64 (t1489.length : Int)), (60, .bool (false)), (63, .int .i64 t1452), (64, .bool (true)), (71, .bool (true))] a ∧ St B w (Ass.box 89 g1036 [.slice A1453 t1451.length C1454, .func (.func 46) #[.pointer (some ⟨g1037, 0, none⟩)] #[]] :: Ass.own 5 (Kd.int .u8) A1453 C1454 t1451 :: Ass.box 103 g1037 [.int .u64 t1496] :: Ass.box 33 g1043 [.slice A1503 t1489.length C1504, .int .u64 t1490] :: os) (Ro.sl (Kd.int .u8) A1503 C1504 t1489 :: Ro.sl (Kd.int .u8) A1505 C1506 t1489 :: Ro.sl (Kd.int .u8) A1200 C1201 x1199 :: Ro.sl (Kd.int .u8) A1200 C1201 x1199 :: Ro.sl (Kd.int .u8) A1044 C1045 t1041 :: Ro.sl (Kd.int .u8) A9 C10 l8 :: Ro.sl (Kd.int .u8) A9 C10 l8 :: Ro.sl (Kd.int .u8) A9 C10 l8 :: Ro.sl (Kd.int .i64) (some ad1437) C14 l12 :: rs)) (by kernel_rfl) ?_ (fun a w hI => ?_)
                      · have hS := hS.drew
                        refine EW.draw (B := B) (id := 13) (ops := Cd3.r.r.r.r.l.r.l.l.r.l.l.r.r.r.l.ops) [Ass.box 89 g1036 [.slice A1453 t1451.length C1454, .func (.func 46) #[.pointer (some ⟨g1037, 0, none⟩)] #[]], Ass.own 5 (Kd.int .u8) A1453 C1454 t1451] [Ro.sl (Kd.int .u8) A1200 C1201 x1199, Ro.sl (Kd.int .u8) A1044 C1045 t1041, Ro.sl (Kd.int .u8) A9 C10 l8, Ro.sl (Kd.int .u8) A9 C10 l8, Ro.sl (Kd.int .u8) A9 C10 l8, Ro.sl (Kd.int .i64) (some ad1437) C14 l12] (by kernel_rfl) (by kernel_rfl) ?_
                        have hN : Region.noSelect Cd3.r.r.r.r.l.r.l.l.r.l.l.r.r.r.l.ops = true := (by kernel_rfl)
                        have hF : freeAll Cd3.r.r.r.r.l.r.l.l.r.l.l.r.r.r.l.ops = true := (by kernel_rfl)
                        have hC : Core B [Ass.box 89 g1036 [.slice A1453 t1451.length C1454, .func (.func 46) #[.pointer (some ⟨g1037, 0, none⟩)] #[]], Ass.own 5 (Kd.int .u8) A1453 C1454 t1451] [Ro.sl (Kd.int .u8) A1200 C1201 x1199, Ro.sl (Kd.int .u8) A1044 C1045 t1041, Ro.sl (Kd.int .u8) A9 C10 l8, Ro.sl (Kd.int .u8) A9 C10 l8, Ro.sl (Kd.int .u8) A9 C10 l8, Ro.sl (Kd.int .i64) (some ad1437) C14 l12] _ := ⟨_, _, hS.re [2, 2] [] rfl sub_self⟩
                        refine ED.quick hN hF hC [0, 1, 2] [2, 7, 8, 9, 10, 11, 47, 48, 49] 22 [(2, .slice (some ad1437) l12.length C14), (7, .pointer (some ⟨g1036, 0, none⟩)), (8, .pointer (some ⟨g1043, 0, none⟩)), (9, .int .i64 x1207), (10, .int .i64 x1441), (11, .int .i64 t1452), (47, .int .i64 t1452), (48, .pointer (some ⟨g1043, 0, none⟩)), (49, .int .i64 x1441)] #[true, true, true, false, false, false, false, false, false, false, false, false, false, false, false, false, false, false, false, false, false, false, false, false, false] (by kernel_rfl) (by kernel_rfl) ?_
                        have hS : St B _ (Ass.box 33 g1043 [.slice A1200 x1199.length C1201, .int .u64 x1202] :: Ass.box 103 g1037 [.int .u64 t1450] :: Ass.box 89 g1036 [.slice A1453 t1451.length C1454, .func (.func 46) #[.pointer (some ⟨g1037, 0, none⟩)] #[]] :: Ass.own 5 (Kd.int .u8) A1453 C1454 t1451 :: os) (Ro.sl (Kd.int .u8) A1200 C1201 x1199 :: Ro.sl (Kd.int .u8) A1200 C1201 x1199 :: Ro.sl (Kd.int .u8) A1044 C1045 t1041 :: Ro.sl (Kd.int .u8) A9 C10 l8 :: Ro.sl (Kd.int .u8) A9 C10 l8 :: Ro.sl (Kd.int .u8) A9 C10 l8 :: Ro.sl (Kd.int .i64) (some ad1437) C14 l12 :: rs) := hS.re [3] [] rfl (sub_cons 0 rfl sub_self)
                        refine ED.one 3 21 #[true, true, true, true, false, false, false, false, false, false, false, false, false, false, false, false, false, false, false, false, false, false, false, false, false] (by kernel_rfl) (by kernel_rfl) (by kernel_rfl) (EO.callD 17 [.pointer (some ⟨g1043, 0, none⟩), .int .i64 x1441] _ 50 (by kernel_rfl) (by kernel_rfl) (by kernel_rfl) (confidantref15_Picks_Next.calls hc1494 hS) ?_)
                        rintro v w ⟨A1507, C1508, rfl, hS⟩
                        have hC : Core B [Ass.box 89 g1036 [.slice A1453 t1451.length C1454, .func (.func 46) #[.pointer (some ⟨g1037, 0, none⟩)] #[]], Ass.own 5 (Kd.int .u8) A1453 C1454 t1451] [Ro.sl (Kd.int .u8) A1200 C1201 x1199, Ro.sl (Kd.int .u8) A1044 C1045 t1041, Ro.sl (Kd.int .u8) A9 C10 l8, Ro.sl (Kd.int .u8) A9 C10 l8, Ro.sl (Kd.int .u8) A9 C10 l8, Ro.sl (Kd.int .i64) (some ad1437) C14 l12] _ := ⟨_, _, hS.re [3, 3] [] rfl (sub_cons 1 rfl (sub_cons 3 rfl (sub_cons 4 rfl (sub_cons 4 rfl (sub_cons 4 rfl (sub_cons 7 rfl sub_self))))))⟩
                        refine ⟨hC, ?_⟩
                        refine ED.quick hN hF hC [4, 5] [2, 7, 8, 9, 10, 11, 52] 19 [(2, .slice (some ad1437) l12.length C14), (7, .pointer (some ⟨g1036, 0, none⟩)), (8, .pointer (some ⟨g1043, 0, none⟩)), (9, .int .i64 x1207), (10, .int .i64 x1441), (11, .int .i64 t1452), (52, .bool (!(decide (t1452 = t1491))))] #[true, true, true, true, true, true, false, false, false, false, false, false, false, false, false, false, false, false, false, false, false, false, false, false, false] (by kernel_rfl) (by kernel_rfl) ?_
                        refine ED.keep [2, 7, 8, 9, 10, 11, 52] [(2, .slice (some ad1437) l12.length C14), (7, .pointer (some ⟨g1036, 0, none⟩)), (8, .pointer (some ⟨g1043, 0, none⟩)), (9, .int .i64 x1207), (10, .int .i64 x1441), (11, .int .i64 t1452), (52, .bool (!(decide (t1452 = t1491))))] (by kernel_rfl) ?_
                        refine ED.as' [(2, .slice (some ad1437) l12.length C14), (7, .pointer (some ⟨g1036, 0, none⟩)), (8, .pointer (some ⟨g1043, 0, none⟩)), (9, .int .i64 x1207), (10, .int .i64 x1441), (11, .int .i64 t1452), (52, .bool (false))] (by simp only [dec_t h1495, Bool.not_true, Bool.not_false]) ?_
                        refine ED.quick hN hF hC [6, 8, 9, 10] [2, 7, 8, 9, 10, 11, 52, 53, 55, 56, 57] 15 [(2, .slice (some ad1437) l12.length C14), (7, .pointer (some ⟨g1036, 0, none⟩)), (8, .pointer (some ⟨g1043, 0, none⟩)), (9, .int .i64 x1207), (10, .int .i64 x1441), (11, .int .i64 t1452), (52, .bool (false)), (53, .pointer (some ⟨g1036, 0, none⟩)), (55, .pointer (some ⟨g1043, 0, none⟩)), (56, .pointer (some ⟨g1043, 0, none⟩)), (57, .pointer (some ⟨g1043, 0, none⟩))] #[true, true, true, true, true, true, true, false, true, true, true, false, false, false, false, false, false, false, false, false, false, false, false, false, false] (by kernel_rfl) (by kernel_rfl) ?_
                        refine ED.two 7 11 14 (by kernel_rfl) (by kernel_rfl) ?_ ?_
                        · have hS : St B _ (Ass.box 89 g1036 [.slice A1453 t1451.length C1454, .func (.func 46) #[.pointer (some ⟨g1037, 0, none⟩)] #[]] :: Ass.own 5 (Kd.int .u8) A1453 C1454 t1451 :: Ass.box 103 g1037 [.int .u64 t1450] :: Ass.box 33 g1043 [.slice A1507 t1489.length C1508, .int .u64 t1490] :: os) (Ro.sl (Kd.int .u8) A1507 C1508 t1489 :: Ro.sl (Kd.int .u8) A1200 C1201 x1199 :: Ro.sl (Kd.int .u8) A1200 C1201 x1199 :: Ro.sl (Kd.int .u8) A1044 C1045 t1041 :: Ro.sl (Kd.int .u8) A9 C10 l8 :: Ro.sl (Kd.int .u8) A9 C10 l8 :: Ro.sl (Kd.int .u8) A9 C10 l8 :: Ro.sl (Kd.int .i64) (some ad1437) C14 l12 :: rs) := hS.re [1, 3, 3] [] rfl sub_self
                          refine EO.callD 18 [.pointer (some ⟨g1036, 0, none⟩)] _ 54 (by kernel_rfl) (by kernel_rfl) (by kernel_rfl) (picks_Picks_Left.calls hc1498 hS) ?_
                          rintro v w ⟨rfl, hS⟩
                          have hC : Core B [Ass.box 89 g1036 [.slice A1453 t1451.length C1454, .func (.func 46) #[.pointer (some ⟨g1037, 0, none⟩)] #[]], Ass.own 5 (Kd.int .u8) A1453 C1454 t1451] [Ro.sl (Kd.int .u8) A1200 C1201 x1199, Ro.sl (Kd.int .u8) A1044 C1045 t1041, Ro.sl (Kd.int .u8) A9 C10 l8, Ro.sl (Kd.int .u8) A9 C10 l8, Ro.sl (Kd.int .u8) A9 C10 l8, Ro.sl (Kd.int .i64) (some ad1437) C14 l12] _ := ⟨_, _, hS.re [1, 1] [] rfl (sub_cons 1 rfl (sub_cons 3 rfl (sub_cons 4 rfl (sub_cons 4 rfl (sub_cons 4 rfl (sub_cons 7 rfl sub_self))))))⟩
                          refine ⟨hC, ?_⟩
                          refine ED.at' #[true, true, true, true, true, true, true, true, true, true, true, false, false, false, false, false, false, false, false, false, false, false, false, false, false] (by kernel_rfl) ?_
                          refine ED.one 11 13 #[true, true, true, true, true, true, true, true, true, true, true, true, false, false, false, false, false, false, false, false, false, false, false, false, false] (by kernel_rfl) (by kernel_rfl) (by kernel_rfl) (EO.Y (YO.loadBox hS 3 rfl 22 0 1 (.slice A1507 t1489.length C1508) 58 (by kernel_rfl) (by kernel_rfl) (by kernel_rfl) (by kernel_rfl)) ?_)
                          have hC : Core B [Ass.box 89 g1036 [.slice A1453 t1451.length C1454, .func (.func 46) #[.pointer (some ⟨g1037, 0, none⟩)] #[]], Ass.own 5 (Kd.int .u8) A1453 C1454 t1451] [Ro.sl (Kd.int .u8) A1200 C1201 x1199, Ro.sl (Kd.int .u8) A1044 C1045 t1041, Ro.sl (Kd.int .u8) A9 C10 l8, Ro.sl (Kd.int .u8) A9 C10 l8, Ro.sl (Kd.int .u8) A9 C10 l8, Ro.sl (Kd.int .i64) (some ad1437) C14 l12] _ := ⟨_, _, hS.re [1, 1] [] rfl (sub_cons 1 rfl (sub_cons 3 rfl (sub_cons 4 rfl (sub_cons 4 rfl (sub_cons 4 rfl (sub_cons 7 rfl sub_self))))))⟩
                          refine ⟨hC, ?_⟩
                          refine ED.quick hN hF hC [12, 13, 14, 15] [2, 7, 8, 9, 10, 11, 53, 54, 55, 56, 57, 58, 59, 60, 62] 9 [(2, .slice (some ad1437) l12.length C14), (7, .pointer (some ⟨g1036, 0, none⟩)), (8, .pointer (some ⟨g1043, 0, none⟩)), (9, .int .i64 x1207), (10, .int .i64 x1441), (11, .int .i64 t1452), (53, .pointer (some ⟨g1036, 0, none⟩)), (54, .int .i64 t1497), (55, .pointer (some ⟨g1043, 0, none⟩)), (56, .pointer (some ⟨g1043, 0, none⟩)), (57, .pointer (some ⟨g1043, 0, none⟩)), (58, .slice A1507 t1489.length C1508), (59, .int .i64 (t1489.length : Int)), (60, .bool (!(decide (t1497 = (t1489.length : Int))))), (62, .bool (!(decide (t1497 = (t1489.length : Int)))))] #[true, true, true, true, true, true, true, true, true, true, true, true, true, true, true, true, false, false, false, false, false, false, false, false, false] (by kernel_rfl) (by kernel_rfl) ?_
                          refine ED.keep [2, 7, 8, 9, 10, 11, 53, 54, 55, 56, 57, 58, 59, 60, 62] [(2, .slice (some ad1437) l12.length C14), (7, .pointer (some ⟨g1036, 0, none⟩)), (8, .pointer (some ⟨g1043, 0, none⟩)), (9, .int .i64 x1207), (10, .int .i64 x1441), (11, .int .i64 t1452), (53, .pointer (some ⟨g1036, 0, none⟩)), (54, .int .i64 t1497), (55, .pointer (some ⟨g1043, 0, none⟩)), (56, .pointer (some ⟨g1043, 0, none⟩)), (57, .pointer (some ⟨g1043, 0, none⟩)), (58, .slice A1507 t1489.length C1508), (59, .int .i64 (t1489.length : Int)), (60, .bool (!(decide (t1497 = (t1489.length : Int))))), (62, .bool (!(decide (t1497 = (t1489.length : Int)))))] (by kernel_rfl) ?_
                          refine ED.as' [(2, .slice (some ad1437) l12.length C14), (7, .pointer (some ⟨g1036, 0, none⟩)), (8, .pointer (some ⟨g1043, 0, none⟩)), (9, .int .i64 x1207), (10, .int .i64 x1441), (11, .int .i64 t1452), (53, .pointer (some ⟨g1036, 0, none⟩)), (54, .int .i64 t1497), (55, .pointer (some ⟨g1043, 0, none⟩)), (56, .pointer (some ⟨g1043, 0, none⟩)), (57, .pointer (some ⟨g1043, 0, none⟩)), (58, .slice A1507 t1489.length C1508), (59, .int .i64 (t1489.length : Int)), (60, .bool (false)), (62, .bool (false))] (by simp only [dec_t h1499, Bool.not_true, Bool.not_false]) ?_
                          refine ED.quick hN hF hC [16, 17, 18, 19] [2, 7, 8, 9, 10, 11, 53, 54, 55, 56, 57, 58, 59, 60, 63, 64, 66] 5 [(2, .slice (some ad1437) l12.length C14), (7, .pointer (some ⟨g1036, 0, none⟩)), (8, .pointer (some ⟨g1043, 0, none⟩)), (9, .int .i64 x1207), (10, .int .i64 x1441), (11, .int .i64 t1452), (53, .pointer (some ⟨g1036, 0, none⟩)), (54, .int .i64 t1497), (55, .pointer (some ⟨g1043, 0, none⟩)), (56, .pointer (some ⟨g1043, 0, none⟩)), (57, .pointer (some ⟨g1043, 0, none⟩)), (58, .slice A1507 t1489.length C1508), (59, .int .i64 (t1489.length : Int)), (60, .bool (false)), (63, .int .i64 t1452), (64, .bool (decide (t1452 < 0))), (66, .bool (decide (t1452 < 0)))] #[true, true, true, true, true, true, true, true, true, true, true, true, true, true, true, true, true, true, true, true, false, false, false, false, false] (by kernel_rfl) (by kernel_rfl) ?_
                          refine ED.keep [2, 7, 8, 9, 10, 11, 53, 54, 55, 56, 57, 58, 59, 60, 63, 64, 66] [(2, .slice (some ad1437) l12.length C14), (7, .pointer (some ⟨g1036, 0, none⟩)), (8, .pointer (some ⟨g1043, 0, none⟩)), (9, .int .i64 x1207), (10, .int .i64 x1441), (11, .int .i64 t1452), (53, .pointer (some ⟨g1036, 0, none⟩)), (54, .int .i64 t1497), (55, .pointer (some ⟨g1043, 0, none⟩)), (56, .pointer (some ⟨g1043, 0, none⟩)), (57, .pointer (some ⟨g1043, 0, none⟩)), (58, .slice A1507 t1489.length C1508), (59, .int .i64 (t1489.length : Int)), (60, .bool (false)), (63, .int .i64 t1452), (64, .bool (decide (t1452 < 0))), (66, .bool (decide (t1452 < 0)))] (by kernel_rfl) ?_
                          refine ED.as' [(2, .slice (some ad1437) l12.length C14), (7, .pointer (some ⟨g1036, 0, none⟩)), (8, .pointer (some ⟨g1043, 0, none⟩)), (9, .int .i64 x1207), (10, .int .i64 x1441), (11, .int .i64 t1452), (53, .pointer (some ⟨g1036, 0, none⟩)), (54, .int .i64 t1497), (55, .pointer (some ⟨g1043, 0, none⟩)), (56, .pointer (some ⟨g1043, 0, none⟩)), (57, .pointer (some ⟨g1043, 0, none⟩)), (58, .slice A1507 t1489.length C1508), (59, .int .i64 (t1489.length : Int)), (60, .bool (false)), (63, .int .i64 t1452), (64, .bool (true)), (66, .bool (true))] (by simp only [dec_t h1500, Bool.not_true, Bool.not_false]) ?_
                          refine ED.quick hN hF hC [20, 21, 22, 23, 24] [2, 7, 8, 9, 53, 54, 55, 56, 57, 58, 59, 60, 63, 64, 67, 68, 69, 70, 71] 0 [(2, .slice (some ad1437) l12.length C14), (7, .pointer (some ⟨g1036, 0, none⟩)), (8, .pointer (some ⟨g1043, 0, none⟩)), (9, .int .i64 x1207), (53, .pointer (some ⟨g1036, 0, none⟩)), (54, .int .i64 t1497), (55, .pointer (some ⟨g1043, 0, none⟩)), (56, .pointer (some ⟨g1043, 0, none⟩)), (57, .pointer (some ⟨g1043, 0, none⟩)), (58, .slice A1507 t1489.length C1508), (59, .int .i64 (t1489.length : Int)), (60, .bool (false)), (63, .int .i64 t1452), (64, .bool (true)), (67, undef), (68, undef), (69, undef), (70, undef), (71, .bool (true))] #[true, true, true, true, true, true, true, true, true, true, true, true, true, true, true, true, true, true, true, true, true, true, true, true, true] (by kernel_rfl) (by kernel_rfl) ?_
                          refine ED.done (by kernel_rfl) ?_
                          refine EQ.to ?_
                          refine EQ.keep [2, 7, 8, 9, 53, 54, 55, 56, 57, 58, 59, 60, 63, 64, 71] [(2, .slice (some ad1437) l12.length C14), (7, .pointer (some ⟨g1036, 0, none⟩)), (8, .pointer (some ⟨g1043, 0, none⟩)), (9, .int .i64 x1207), (53, .pointer (some ⟨g1036, 0, none⟩)), (54, .int .i64 t1497), (55, .pointer (some ⟨g1043, 0, none⟩)), (56, .pointer (some ⟨g1043, 0, none⟩)), (57, .pointer (some ⟨g1043, 0, none⟩)), (58, .slice A1507 t1489.length C1508), (59, .int .i64 (t1489.length : Int)), (60, .bool (false)), (63, .int .i64 t1452), (64, .bool (true)), (71, .bool (true))] (by kernel_rfl) ?_
                          exact fun a ha => ⟨A1507, C1508, A1507, C1508, ha, (hS.re [3, 3, 3, 3] [] rfl (sub_cons 0 rfl (sub_cons 0 rfl (sub_cons 1 rfl (sub_cons 1 rfl (sub_cons 3 rfl (sub_cons 4 rfl (sub_cons 4 rfl (sub_cons 4 rfl (sub_cons 7 rfl (sub_tail (sub_tail (sub_tail (sub_tail (sub_tail (sub_tail (sub_tail (sub_tail (sub_self)))))))))))))))))))⟩
                        · refine EO.Y (YO.loadBox hS 0 rfl 22 0 1 (.slice A1507 t1489.length C1508) 58 (by kernel_rfl) (by kernel_rfl) (by kernel_rfl) (by kernel_rfl)) ?_
                          have hC : Core B [Ass.box 89 g1036 [.slice A1453 t1451.length C1454, .func (.func 46) #[.pointer (some ⟨g1037, 0, none⟩)] #[]], Ass.own 5 (Kd.int .u8) A1453 C1454 t1451] [Ro.sl (Kd.int .u8) A1200 C1201 x1199, Ro.sl (Kd.int .u8) A1044 C1045 t1041, Ro.sl (Kd.int .u8) A9 C10 l8, Ro.sl (Kd.int .u8) A9 C10 l8, Ro.sl (Kd.int .u8) A9 C10 l8, Ro.sl (Kd.int .i64) (some ad1437) C14 l12] _ := ⟨_, _, hS.re [3, 3] [] rfl (sub_cons 1 rfl (sub_cons 3 rfl (sub_cons 4 rfl (sub_cons 4 rfl (sub_cons 4 rfl (sub_cons 7 rfl sub_self))))))⟩
                          refine ⟨hC, ?_⟩
                          refine ED.at' #[true, true, true, true, true, true, true, false, true, true, true, true, false, false, false, false, false, false, false, false, false, false, false, false, false] (by kernel_rfl) ?_
                          refine ED.quick hN hF hC [12] [2, 7, 8, 9, 10, 11, 52, 53, 55, 56, 57, 58, 59] 13 [(2, .slice (some ad1437) l12.length C14), (7, .pointer (some ⟨g1036, 0, none⟩)), (8, .pointer (some ⟨g1043, 0, none⟩)), (9, .int .i64 x1207), (10, .int .i64 x1441), (11, .int .i64 t1452), (52, .bool (false)), (53, .pointer (some ⟨g1036, 0, none⟩)), (55, .pointer (some ⟨g1043, 0, none⟩)), (56, .pointer (some ⟨g1043, 0, none⟩)), (57, .pointer (some ⟨g1043, 0, none⟩)), (58, .slice A1507 t1489.length C1508), (59, .int .i64 (t1489.length : Int))] #[true, true, true, true, true, true, true, false, true, true, true, true, true, false, false, false, false, false, false, false, false, false, false, false, false] (by kernel_rfl) (by kernel_rfl) ?_
                          have hS : St B _ (Ass.box 89 g1036 [.slice A1453 t1451.length C1454, .func (.func 46) #[.pointer (some ⟨g1037, 0, none⟩)] #[]] :: Ass.own 5 (Kd.int .u8) A1453 C1454 t1451 :: Ass.box 103 g1037 [.int .u64 t1450] :: Ass.box 33 g1043 [.slice A1507 t1489.length C1508, .int .u64 t1490] :: os) (Ro.sl (Kd.int .u8) A1507 C1508 t1489 :: Ro.sl (Kd.int .u8) A1200 C1201 x1199 :: Ro.sl (Kd.int .u8) A1200 C1201 x1199 :: Ro.sl (Kd.int .u8) A1044 C1045 t1041 :: Ro.sl (Kd.int .u8) A9 C10 l8 :: Ro.sl (Kd.int .u8) A9 C10 l8 :: Ro.sl (Kd.int .u8) A9 C10 l8 :: Ro.sl (Kd.int .i64) (some ad1437) C14 l12 :: rs) := hS.re [1, 3, 3] [] rfl sub_self
                          refine ED.one 7 12 #[true, true, true, true, true, true, true, true, true, true, true, true, true, false, false, false, false, false, false, false, false, false, false, false, false] (by kernel_rfl) (by kernel_rfl) (by kernel_rfl) (EO.callD 18 [.pointer (some ⟨g1036, 0, none⟩)] _ 54 (by kernel_rfl) (by kernel_rfl) (by kernel_rfl) (picks_Picks_Left.calls hc1498 hS) ?_)
                          rintro v w ⟨rfl, hS⟩
                          have hC : Core B [Ass.box 89 g1036 [.slice A1453 t1451.length C1454, .func (.func 46) #[.pointer (some ⟨g1037, 0, none⟩)] #[]], Ass.own 5 (Kd.int .u8) A1453 C1454 t1451] [Ro.sl (Kd.int .u8) A1200 C1201 x1199, Ro.sl (Kd.int .u8) A1044 C1045 t1041, Ro.sl (Kd.int .u8) A9 C10 l8, Ro.sl (Kd.int .u8) A9 C10 l8, Ro.sl (Kd.int .u8) A9 C10 l8, Ro.sl (Kd.int .i64) (some ad1437) C14 l12] _ := ⟨_, _, hS.re [1, 1] [] rfl (sub_cons 1 rfl (sub_cons 3 rfl (sub_cons 4 rfl (sub_cons 4 rfl (sub_cons 4 rfl (sub_cons 7 rfl sub_self))))))⟩
                          refine ⟨hC, ?_⟩
                          refine ED.quick hN hF hC [13, 14, 15] [2, 7, 8, 9, 10, 11, 53, 54, 55, 56, 57, 58, 59, 60, 62] 9 [(2, .slice (some ad1437) l12.length C14), (7, .pointer (some ⟨g1036, 0, none⟩)), (8, .pointer (some ⟨g1043, 0, none⟩)), (9, .int .i64 x1207), (10, .int .i64 x1441), (11, .int .i64 t1452), (53, .pointer (some ⟨g1036, 0, none⟩)), (54, .int .i64 t1497), (55, .pointer (some ⟨g1043, 0, none⟩)), (56, .pointer (some ⟨g1043, 0, none⟩)), (57, .pointer (some ⟨g1043, 0, none⟩)), (58, .slice A1507 t1489.length C1508), (59, .int .i64 (t1489.length : Int)), (60, .bool (!(decide (t1497 = (t1489.length : Int))))), (62, .bool (!(decide (t1497 = (t1489.length : Int)))))] #[true, true, true, true, true, true, true, true, true, true, true, true, true, true, true, true, false, false, false, false, false, false, false, false, false] (by kernel_rfl) (by kernel_rfl) ?_
                          refine ED.keep [2, 7, 8, 9, 10, 11, 53, 54, 55, 56, 57, 58, 59, 60, 62] [(2, .slice (some ad1437) l12.length C14), (7, .pointer (some ⟨g1036, 0, none⟩)), (8, .pointer (some ⟨g1043, 0, none⟩)), (9, .int .i64 x1207), (10, .int .i64 x1441), (11, .int .i64 t1452), (53, .pointer (some ⟨g1036, 0, none⟩)), (54, .int .i64 t1497), (55, .pointer (some ⟨g1043, 0, none⟩)), (56, .pointer (some ⟨g1043, 0, none⟩)), (57, .pointer (some ⟨g1043, 0, none⟩)), (58, .slice A1507 t1489.length C1508), (59, .int .i64 (t1489.length : Int)), (60, .bool (!(decide (t1497 = (t1489.length : Int))))), (62, .bool (!(decide (t1497 = (t1489.length : Int)))))] (by kernel_rfl) ?_
                          refine ED.as' [(2, .slice (some ad1437) l12.length C14), (7, .pointer (some ⟨g1036, 0, none⟩)), (8, .pointer (some ⟨g1043, 0, none⟩)), (9, .int .i64 x1207), (10, .int .i64 x1441), (11, .int .i64 t1452), (53, .pointer (some ⟨g1036, 0, none⟩)), (54, .int .i64 t1497), (55, .pointer (some ⟨g1043, 0, none⟩)), (56, .pointer (some ⟨g1043, 0, none⟩)), (57, .pointer (some ⟨g1043, 0, none⟩)), (58, .slice A1507 t1489.length C1508), (59, .int .i64 (t1489.length : Int)), (60, .bool (false)), (62, .bool (false))] (by simp only [dec_t h1499, Bool.not_true, Bool.not_false]) ?_
                          refine ED.quick hN hF hC [16, 17, 18, 19] [2, 7, 8, 9, 10, 11, 53, 54, 55, 56, 57, 58, 59, 60, 63, 64, 66] 5 [(2, .slice (some ad1437) l12.length C14), (7, .pointer (some ⟨g1036, 0, none⟩)), (8, .pointer (some ⟨g1043, 0, none⟩)), (9, .int .i64 x1207), (10, .int .i64 x1441), (11, .int .i64 t1452), (53, .pointer (some ⟨g1036, 0, none⟩)), (54, .int .i64 t1497), (55, .pointer (some ⟨g1043, 0, none⟩)), (56, .pointer (some ⟨g1043, 0, none⟩)), (57, .pointer (some ⟨g1043, 0, none⟩)), (58, .slice A1507 t1489.length C1508), (59, .int .i64 (t1489.length : Int)), (60, .bool (false)), (63, .int .i64 t1452), (64, .bool (decide (t1452 < 0))), (66, .bool (decide (t1452 < 0)))] #[true, true, true, true, true, true, true, true, true, true, true, true, true, true, true, true, true, true, true, true, false, false, false, false, false] (by kernel_rfl) (by kernel_rfl) ?_
                          refine ED.keep [2, 7, 8, 9, 10, 11, 53, 54, 55, 56, 57, 58, 59, 60, 63, 64, 66] [(2, .slice (some ad1437) l12.length C14), (7, .pointer (some ⟨g1036, 0, none⟩)), (8, .pointer (some ⟨g1043, 0, none⟩)), (9, .int .i64 x1207), (10, .int .i64 x1441), (11, .int .i64 t1452), (53, .pointer (some ⟨g1036, 0, none⟩)), (54, .int .i64 t1497), (55, .pointer (some ⟨g1043, 0, none⟩)), (56, .pointer (some ⟨g1043, 0, none⟩)), (57, .pointer (some ⟨g1043, 0, none⟩)), (58, .slice A1507 t1489.length C1508), (59, .int .i64 (t1489.length : Int)), (60, .bool (false)), (63, .int .i64 t1452), (64, .bool (decide (t1452 < 0))), (66, .bool (decide (t1452 < 0)))] (by kernel_rfl) ?_
                          refine ED.as' [(2, .slice (some ad1437) l12.length C14), (7, .pointer (some ⟨g1036, 0, none⟩)), (8, .pointer (some ⟨g1043, 0, none⟩)), (9, .int .i64 x1207), (10, .int .i64 x1441), (11, .int .i64 t1452), (53, .pointer (some ⟨g1036, 0, none⟩)), (54, .int .i64 t1497), (55, .pointer (some ⟨g1043, 0, none⟩)), (56, .pointer (some ⟨g1043, 0, none⟩)), (57, .pointer (some ⟨g1043, 0, none⟩)), (58, .slice A1507 t1489.length C1508), (59, .int .i64 (t1489.length : Int)), (60, .bool (false)), (63, .int .i64 t1452), (64, .bool (true)), (66, .bool (true))] (by simp only [dec_t h1500, Bool.not_true, Bool.not_false]) ?_
                          refine ED.quick hN hF hC [20, 21, 22, 23, 24] [2, 7, 8, 9, 53, 54, 55, 56, 57, 58, 59, 60, 63, 64, 67, 68, 69, 70, 71] 0 [(2, .slice (some ad1437) l12.length C14), (7, .pointer (some ⟨g1036, 0, none⟩)), (8, .pointer (some ⟨g1043, 0, none⟩)), (9, .int .i64 x1207), (53, .pointer (some ⟨g1036, 0, none⟩)), (54, .int .i64 t1497), (55, .pointer (some ⟨g1043, 0, none⟩)), (56, .pointer (some ⟨g1043, 0, none⟩)), (57, .pointer (some ⟨g1043, 0, none⟩)), (58, .slice A1507 t1489.length C1508), (59, .int .i64 (t1489.length : Int)), (60, .bool (false)), (63, .int .i64 t1452), (64, .bool (true)), (67, undef), (68, undef), (69, undef), (70, undef), (71, .bool (true))] #[true, true, true, true, true, true, true, true, true, true, true, true, true, true, true, true, true, true, true, true, true, true, true, true, true] (by kernel_rfl) (by kernel_rfl) ?_
                          refine ED.done (by kernel_rfl) ?_
                          refine EQ.to ?_
                          refine EQ.keep [2, 7, 8, 9, 53, 54, 55, 56, 57, 58, 59, 60, 63, 64, 71] [(2, .slice (some ad1437) l12.length C14), (7, .pointer (some ⟨g1036, 0, none⟩)), (8, .pointer (some ⟨g1043, 0, none⟩)), (9, .int .i64 x1207), (53, .pointer (some ⟨g1036, 0, none⟩)), (54, .int .i64 t1497), (55, .pointer (some ⟨g1043, 0, none⟩)), (56, .pointer (some ⟨g1043, 0, none⟩)), (57, .pointer (some ⟨g1043, 0, none⟩)), (58, .slice A1507 t1489.length C1508), (59, .int .i64 (t1489.length : Int)), (60, .bool (false)), (63, .int .i64 t1452), (64, .bool (true)), (71, .bool (true))] (by kernel_rfl) ?_
                          exact fun a ha => ⟨A1507, C1508, A1507, C1508, ha, (hS.re [3, 3, 3, 3] [] rfl (sub_cons 0 rfl (sub_cons 0 rfl (sub_cons 1 rfl (sub_cons 1 rfl (sub_cons 3 rfl (sub_cons 4 rfl (sub_cons 4 rfl (sub_cons 4 rfl (sub_cons 7 rfl (sub_tail (sub_tail (sub_tail (sub_tail (sub_tail (sub_tail (sub_tail (sub_tail (sub_self)))))))))))))))))))⟩
                      · obtain ⟨A1503, C1504, A1505, C1506, ha, hS⟩ := hI
                        refine EQ.at ?_ a ha
                        clear ha a
                        refine EQ.to ?_
                        refine EQ.keep [2, 7, 8, 9, 71] [(2, .slice (some ad1437) l12.length C14), (7, .pointer (some ⟨g1036, 0, none⟩)), (8, .pointer (some ⟨g1043, 0, none⟩)), (9, .int .i64 x1207), (71, .bool (true))] (by kernel_rfl) ?_
                        exact fun a ha => ⟨t1496, t1489, t1490, true, A1503, C1504, ha, (hS.re [3, 3, 3, 3] [] rfl (sub_cons 0 rfl (sub_cons 2 rfl (sub_cons 2 rfl (sub_cons 4 rfl (sub_cons 5 rfl (sub_cons 5 rfl (sub_cons 5 rfl (sub_cons 8 rfl (sub_tail (sub_tail (sub_tail (sub_tail (sub_tail (sub_tail (sub_tail (sub_tail (sub_tail (sub_self))))))))))))))))))), H⟩
                    · rw [if_neg h1500] at H
                      refine EW.meet (id := 13) (ops := Cd3.r.r.r.r.l.r.l.l.r.l.l.r.r.r.l.ops) (fun a w => ∃ A1511 : Option Addr, ∃ C1512 : Nat, ∃ A1513 : Option Addr, ∃ C1514 : Nat, Sat 72 [(2, .slice (some ad1437) l12.length C14), (7, .pointer (some ⟨g1036, 0, none⟩)), (8, .pointer (some ⟨g1043, 0, none⟩)), (9, .int .i64 x1207), (53, .pointer (some ⟨g1036, 0, none⟩)), (54, .int .i64 t1497), (55, .pointer (some ⟨g1043, 0, none⟩)), (56, .pointer (some ⟨g1043, 0, none⟩)), (57, .pointer (some ⟨g1043, 0, none⟩)), (58, .slice A1513 t1489.length C1514), (59, .int .i64 (t1489.length : Int)), (60, .bool (false)), (63, .int .i64 t1452), (64, .bool (false)), (67, .int .i64 t1452), (68, .int .i64 x1441), (69, .int .i64 (mx x1441 1)), (70, .bool (decide (t1452 ≥ (mx x1441 1)))), (71, .bool (decide (t1452 ≥ (mx x1441 1))))] a ∧ St B w (Ass.box 89 g1036 [.slice A1453 t1451.length C1454, .func (.func 46) #[.pointer (some ⟨g1037, 0, none⟩)] #[]] :: Ass.own 5 (Kd.int .u8) A1453 C1454 t1451 :: Ass.box 103 g1037 [.int .u64 t1496] :: Ass.box 33 g1043 [.slice A1511 t1489.length C1512, .int .u64 t1490] :: os) (Ro.sl (Kd.int .u8) A1511 C1512 t1489 :: Ro.sl (Kd.int .u8) A1513 C1514 t1489 :: Ro.sl (Kd.int .u8) A1200 C1201 x1199 :: Ro.sl (Kd.int .u8) A1200 C1201 x1199 :: Ro.sl (Kd.int .u8) A1044 C1045 t1041 :: Ro.sl (Kd.int .u8) A9 C10 l8 :: Ro.sl (Kd.int .u8) A9 C10 l8 :: Ro.sl (Kd.int .u8) A9 C10 l8 :: Ro.sl (Kd.int .i64) (some ad1437) C14 l12 :: rs)) (by kernel_rfl) ?_ (fun a w hI => ?_)
                      · have hS := hS.drew
                        refine EW.draw (B := B) (id := 13) (ops := Cd3.r.r.r.r.l.r.l.l.r.l.l.r.r.r.l.ops) [Ass.box 89 g1036 [.slice A1453 t1451.length C1454, .func (.func 46) #[.pointer (some ⟨g1037, 0, none⟩)] #[]], Ass.own 5 (Kd.int .u8) A1453 C1454 t1451] [Ro.sl (Kd.int .u8) A1200 C1201 x1199, Ro.sl (Kd.int .u8) A1044 C1045 t1041, Ro.sl (Kd.int .u8) A9 C10 l8, Ro.sl (Kd.int .u8) A9 C10 l8, Ro.sl (Kd.int .u8) A9 C10 l8, Ro.sl (Kd.int .i64) (some ad1437) C14 l12] (by kernel_rfl) (by kernel_rfl) ?_
                        have hN : Region.noSelect Cd3.r.r.r.r.l.r.l.l.r.l.l.r.r.r.l.ops = true := (by kernel_rfl)
                        have hF : freeAll Cd3.r.r.r.r.l.r.l.l.r.l.l.r.r.r.l.ops = true := (by kernel_rfl)
                        have hC : Core B [Ass.box 89 g1036 [.slice A1453 t1451.length C1454, .func (.func 46) #[.pointer (some ⟨g1037, 0, none⟩)] #[]], Ass.own 5 (Kd.int .u8) A1453 C1454 t1451] [Ro.sl (Kd.int .u8) A1200 C1201 x1199, Ro.sl (Kd.int .u8) A1044 C1045 t1041, Ro.sl (Kd.int .u8) A9 C10 l8, Ro.sl (Kd.int .u8) A9 C10 l8, Ro.sl (Kd.int .u8) A9 C10 l8, Ro.sl (Kd.int .i64) (some ad1437) C14 l12] _ := ⟨_, _, hS.re [2, 2] [] rfl sub_self⟩
                        refine ED.quick hN hF hC [0, 1, 2] [2, 7, 8, 9, 10, 11, 47, 48, 49] 22 [(2, .slice (some ad1437) l12.length C14), (7, .pointer (some ⟨g1036, 0, none⟩)), (8, .pointer (some ⟨g1043, 0, none⟩)), (9, .int .i64 x1207), (10, .int .i64 x1441), (11, .int .i64 t1452), (47, .int .i64 t1452), (48, .pointer (some ⟨g1043, 0, none⟩)), (49, .int .i64 x1441)] #[true, true, true, false, false, false, false, false, false, false, false, false, false, false, false, false, false, false, false, false, false, false, false, false, false] (by kernel_rfl) (by kernel_rfl) ?_
                        have hS : St B _ (Ass.box 33 g1043 [.slice A1200 x1199.length C1201, .int .u64 x1202] :: Ass.box 103 g1037 [.int .u64 t1450] :: Ass.box 89 g1036 [.slice A1453 t1451.length C1454, .func (.func 46) #[.pointer (some ⟨g1037, 0, none⟩)] #[]] :: Ass.own 5 (Kd.int .u8) A1453 C1454 t1451 :: os) (Ro.sl (Kd.int .u8) A1200 C1201 x1199 :: Ro.sl (Kd.int .u8) A1200 C1201 x1199 :: Ro.sl (Kd.int .u8) A1044 C1045 t1041 :: Ro.sl (Kd.int .u8) A9 C10 l8 :: Ro.sl (Kd.int .u8) A9 C10 l8 :: Ro.sl (Kd.int .u8) A9 C10 l8 :: Ro.sl (Kd.int .i64) (some ad1437) C14 l12 :: rs) := hS.re [3] [] rfl (sub_cons 0 rfl sub_self)
                        refine ED.one 3 21 #[true, true, true, true, false, false, false, false, false, false, false, false, false, false, false, false, false, false, false, false, false, false, false, false, false] (by kernel_rfl) (by kernel_rfl) (by kernel_rfl) (EO.callD 17 [.pointer (some ⟨g1043, 0, none⟩), .int .i64 x1441] _ 50 (by kernel_rfl) (by kernel_rfl) (by kernel_rfl) (confidantref15_Picks_Next.calls hc1494 hS) ?_)
                        rintro v w ⟨A1515, C1516, rfl, hS⟩
                        have hC : Core B [Ass.box 89 g1036 [.slice A1453 t1451.length C1454, .func (.func 46) #[.pointer (some ⟨g1037, 0, none⟩)] #[]], Ass.own 5 (Kd.int .u8) A1453 C1454 t1451] [Ro.sl (Kd.int .u8) A1200 C1201 x1199, Ro.sl (Kd.int .u8) A1044 C1045 t1041, Ro.sl (Kd.int .u8) A9 C10 l8, Ro.sl (Kd.int .u8) A9 C10 l8, Ro.sl (Kd.int .u8) A9 C10 l8, Ro.sl (Kd.int .i64) (some ad1437) C14 l12] _ := ⟨_, _, hS.re [3, 3] [] rfl (sub_cons 1 rfl (sub_cons 3 rfl (sub_cons 4 rfl (sub_cons 4 rfl (sub_cons 4 rfl (sub_cons 7 rfl sub_self))))))⟩
                        refine ⟨hC, ?_⟩
                        refine ED.quick hN hF hC [4, 5] [2, 7, 8, 9, 10, 11, 52] 19 [(2, .slice (some ad1437) l12.length C14), (7, .pointer (some ⟨g1036, 0, none⟩)), (8, .pointer (some ⟨g1043, 0, none⟩)), (9, .int .i64 x1207), (10, .int .i64 x1441), (11, .int .i64 t1452), (52, .bool (!(decide (t1452 = t1491))))] #[true, true, true, true, true, true, false, false, false, false, false, false, false, false, false, false, false, false, false, false, false, false, false, false, false] (by kernel_rfl) (by kernel_rfl) ?_
                        refine ED.keep [2, 7, 8, 9, 10, 11, 52] [(2, .slice (some ad1437) l12.length C14), (7, .pointer (some ⟨g1036, 0, none⟩)), (8, .pointer (some ⟨g1043, 0, none⟩)), (9, .int .i64 x1207), (10, .int .i64 x1441), (11, .int .i64 t1452), (52, .bool (!(decide (t1452 = t1491))))] (by kernel_rfl) ?_
                        refine ED.as' [(2, .slice (some ad1437) l12.length C14), (7, .pointer (some ⟨g1036, 0, none⟩)), (8, .pointer (some ⟨g1043, 0, none⟩)), (9, .int .i64 x1207), (10, .int .i64 x1441), (11, .int .i64 t1452), (52, .bool (false))] (by simp only [dec_t h1495, Bool.not_true, Bool.not_false]) ?_
                        refine ED.quick hN hF hC [6, 8, 9, 10] [2, 7, 8, 9, 10, 11, 52, 53, 55, 56, 57] 15 [(2, .slice (some ad1437) l12.length C14), (7, .pointer (some ⟨g1036, 0, none⟩)), (8, .pointer (some ⟨g1043, 0, none⟩)), (9, .int .i64 x1207), (10, .int .i64 x1441), (11, .int .i64 t1452), (52, .bool (false)), (53, .pointer (some ⟨g1036, 0, none⟩)), (55, .pointer (some ⟨g1043, 0, none⟩)), (56, .pointer (some ⟨g1043, 0, none⟩)), (57, .pointer (some ⟨g1043, 0, none⟩))] #[true, true, true, true, true, true, true, false, true, true, true, false, false, false, false, false, false, false, false, false, false, false, false, false, false] (by kernel_rfl) (by kernel_rfl) ?_
                        refine ED.two 7 11 14 (by kernel_rfl) (by kernel_rfl) ?_ ?_
                        · have hS : St B _ (Ass.box 89 g1036 [.slice A1453 t1451.length C1454, .func (.func 46) #[.pointer (some ⟨g1037, 0, none⟩)] #[]] :: Ass.own 5 (Kd.int .u8) A1453 C1454 t1451 :: Ass.box 103 g1037 [.int .u64 t1450] :: Ass.box 33 g1043 [.slice A1515 t1489.length C1516, .int .u64 t1490] :: os) (Ro.sl (Kd.int .u8) A1515 C1516 t1489 :: Ro.sl (Kd.int .u8) A1200 C1201 x1199 :: Ro.sl (Kd.int .u8) A1200 C1201 x1199 :: Ro.sl (Kd.int .u8) A1044 C1045 t1041 :: Ro.sl (Kd.int .u8) A9 C10 l8 :: Ro.sl (Kd.int .u8) A9 C10 l8 :: Ro.sl (Kd.int .u8) A9 C10 l8 :: Ro.sl (Kd.int .i64) (some ad1437) C14 l12 :: rs) := hS.re [1, 3, 3] [] rfl sub_self
                          refine EO.callD 18 [.pointer (some ⟨g1036, 0, none⟩)] _ 54 (by kernel_rfl) (by kernel_rfl) (by kernel_rfl) (picks_Picks_Left.calls hc1498 hS) ?_
                          rintro v w ⟨rfl, hS⟩
                          have hC : Core B [Ass.box 89 g1036 [.slice A1453 t1451.length C1454, .func (.func 46) #[.pointer (some ⟨g1037, 0, none⟩)] #[]], Ass.own 5 (Kd.int .u8) A1453 C1454 t1451] [Ro.sl (Kd.int .u8) A1200 C1201 x1199, Ro.sl (Kd.int .u8) A1044 C1045 t1041, Ro.sl (Kd.int .u8) A9 C10 l8, Ro.sl (Kd.int .u8) A9 C10 l8, Ro.sl (Kd.int .u8) A9 C10 l8, Ro.sl (Kd.int .i64) (some ad1437) C14 l12] _ := ⟨_, _, hS.re [1, 1] [] rfl (sub_cons 1 rfl (sub_cons 3 rfl (sub_cons 4 rfl (sub_cons 4 rfl (sub_cons 4 rfl (sub_cons 7 rfl sub_self))))))⟩
                          refine ⟨hC, ?_⟩
                          refine ED.at' #[true, true, true, true, true, true, true, true, true, true, true, false, false, false, false, false, false, false, false, false, false, false, false, false, false] (by kernel_rfl) ?_
                          refine ED.one 11 13 #[true, true, true, true, true, true, true, true, true, true, true, true, false, false, false, false, false, false, false, false, false, false, false, false, false] (by kernel_rfl) (by kernel_rfl) (by kernel_rfl) (EO.Y (YO.loadBox hS 3 rfl 22 0 1 (.slice A1515 t1489.length C1516) 58 (by kernel_rfl) (by kernel_rfl) (by kernel_rfl) (by kernel_rfl)) ?_)
                          have hC : Core B [Ass.box 89 g1036 [.slice A1453 t1451.length C1454, .func (.func 46) #[.pointer (some ⟨g1037, 0, none⟩)] #[]], Ass.own 5 (Kd.int .u8) A1453 C1454 t1451] [Ro.sl (Kd.int .u8) A1200 C1201 x1199, Ro.sl (Kd.int .u8) A1044 C1045 t1041, Ro.sl (Kd.int .u8) A9 C10 l8, Ro.sl (Kd.int .u8) A9 C10 l8, Ro.sl (Kd.int .u8) A9 C10 l8, Ro.sl (Kd.int .i64) (some ad1437) C14 l12] _ := ⟨_, _, hS.re [1, 1] [] rfl (sub_cons 1 rfl (sub_cons 3 rfl (sub_cons 4 rfl (sub_cons 4 rfl (sub_cons 4 rfl (sub_cons 7 rfl sub_self))))))⟩
                          refine ⟨hC, ?_⟩
                          refine ED.quick hN hF hC [12, 13, 14, 15] [2, 7, 8, 9, 10, 11, 53, 54, 55, 56, 57, 58, 59, 60, 62] 9 [(2, .slice (some ad1437) l12.length C14), (7, .pointer (some ⟨g1036, 0, none⟩)), (8, .pointer (some ⟨g1043, 0, none⟩)), (9, .int .i64 x1207), (10, .int .i64 x1441), (11, .int .i64 t1452), (53, .pointer (some ⟨g1036, 0, none⟩)), (54, .int .i64 t1497), (55, .pointer (some ⟨g1043, 0, none⟩)), (56, .pointer (some ⟨g1043, 0, none⟩)), (57, .pointer (some ⟨g1043, 0, none⟩)), (58, .slice A1515 t1489.length C1516), (59, .int .i64 (t1489.length : Int)), (60, .bool (!(decide (t1497 = (t1489.length : Int))))), (62, .bool (!(decide (t1497 = (t1489.length : Int)))))] #[true, true, true, true, true, true, true, true, true, true, true, true, true, true, true, true, false, false, false, false, false, false, false, false, false] (by kernel_rfl) (by kernel_rfl) ?_
                          refine ED.keep [2, 7, 8, 9, 10, 11, 53, 54, 55, 56, 57, 58, 59, 60, 62] [(2, .slice (some ad1437) l12.length C14), (7, .pointer (some ⟨g1036, 0, none⟩)), (8, .pointer (some ⟨g1043, 0, none⟩)), (9, .int .i64 x1207), (10, .int .i64 x1441), (11, .int .i64 t1452), (53, .pointer (some ⟨g1036, 0, none⟩)), (54, .int .i64 t1497), (55, .pointer (some ⟨g1043, 0, none⟩)), (56, .pointer (some ⟨g1043, 0, none⟩)), (57, .pointer (some ⟨g1043, 0, none⟩)), (58, .slice A1515 t1489.length C1516), (59, .int .i64 (t1489.length : Int)), (60, .bool (!(decide (t1497 = (t1489.length : Int))))), (62, .bool (!(decide (t1497 = (t1489.length : Int)))))] (by kernel_rfl) ?_
                          refine ED.as' [(2, .slice (some ad1437) l12.length C14), (7, .pointer (some ⟨g1036, 0, none⟩)), (8, .pointer (some ⟨g1043, 0, none⟩)), (9, .int .i64 x1207), (10, .int .i64 x1441), (11, .int .i64 t1452), (53, .pointer (some ⟨g1036, 0, none⟩)), (54, .int .i64 t1497), (55, .pointer (some ⟨g1043, 0, none⟩)), (56, .pointer (some ⟨g1043, 0, none⟩)), (57, .pointer (some ⟨g1043, 0, none⟩)), (58, .slice A1515 t1489.length C1516), (59, .int .i64 (t1489.length : Int)), (60, .bool (false)), (62, .bool (false))] (by simp only [dec_t h1499, Bool.not_true, Bool.not_false]) ?_
                          refine ED.quick hN hF hC [16, 17, 18, 19] [2, 7, 8, 9, 10, 11, 53, 54, 55, 56, 57, 58, 59, 60, 63, 64, 66] 5 [(2, .slice (some ad1437) l12.length C14), (7, .pointer (some ⟨g1036, 0, none⟩)), (8, .pointer (some ⟨g1043, 0, none⟩)), (9, .int .i64 x1207), (10, .int .i64 x1441), (11, .int .i64 t1452), (53, .pointer (some ⟨g1036, 0, none⟩)), (54, .int .i64 t1497), (55, .pointer (some ⟨g1043, 0, none⟩)), (56, .pointer (some ⟨g1043, 0, none⟩)), (57, .pointer (some ⟨g1043, 0, none⟩)), (58, .slice A1515 t1489.length C1516), (59, .int .i64 (t1489.length : Int)), (60, .bool (false)), (63, .int .i64 t1452), (64, .bool (decide (t1452 < 0))), (66, .bool (decide (t1452 < 0)))] #[true, true, true, true, true, true, true, true, true, true, true, true, true, true, true, true, true, true, true, true, false, false, false, false, false] (by kernel_rfl) (by kernel_rfl) ?_
                          refine ED.keep [2, 7, 8, 9, 10, 11, 53, 54, 55, 56, 57, 58, 59, 60, 63, 64, 66] [(2, .slice (some ad1437) l12.length C14), (7, .pointer (some ⟨g1036, 0, none⟩)), (8, .pointer (some ⟨g1043, 0, none⟩)), (9, .int .i64 x1207), (10, .int .i64 x1441), (11, .int .i64 t1452), (53, .pointer (some ⟨g1036, 0, none⟩)), (54, .int .i64 t1497), (55, .pointer (some ⟨g1043, 0, none⟩)), (56, .pointer (some ⟨g1043, 0, none⟩)), (57, .pointer (some ⟨g1043, 0, none⟩)), (58, .slice A1515 t1489.length C1516), (59, .int .i64 (t1489.length : Int)), (60, .bool (false)), (63, .int .i64 t1452), (64, .bool (decide (t1452 < 0))), (66, .bool (decide (t1452 < 0)))] (by kernel_rfl) ?_
                          refine ED.as' [(2, .slice (some ad1437) l12.length C14), (7, .pointer (some ⟨g1036, 0, none⟩)), (8, .pointer (some ⟨g1043, 0, none⟩)), (9, .int .i64 x1207), (10, .int .i64 x1441), (11, .int .i64 t1452), (53, .pointer (some ⟨g1036, 0, none⟩)), (54, .int .i64 t1497), (55, .pointer (some ⟨g1043, 0, none⟩)), (56, .pointer (some ⟨g1043, 0, none⟩)), (57, .pointer (some ⟨g1043, 0, none⟩)), (58, .slice A1515 t1489.length C1516), (59, .int .i64 (t1489.length : Int)), (60, .bool (false)), (63, .int .i64 t1452), (64, .bool (false)), (66, .bool (false))] (by simp only [dec_f h1500, Bool.not_true, Bool.not_false]) ?_
                          refine ED.quick hN hF hC [20, 21, 22, 23, 24] [2, 7, 8, 9, 53, 54, 55, 56, 57, 58, 59, 60, 63, 64, 67, 68, 69, 70, 71] 0 [(2, .slice (some ad1437) l12.length C14), (7, .pointer (some ⟨g1036, 0, none⟩)), (8, .pointer (some ⟨g1043, 0, none⟩)), (9, .int .i64 x1207), (53, .pointer (some ⟨g1036, 0, none⟩)), (54, .int .i64 t1497), (55, .pointer (some ⟨g1043, 0, none⟩)), (56, .pointer (some ⟨g1043, 0, none⟩)), (57, .pointer (some ⟨g1043, 0, none⟩)), (58, .slice A1515 t1489.length C1516), (59, .int .i64 (t1489.length : Int)), (60, .bool (false)), (63, .int .i64 t1452), (64, .bool (false)), (67, .int .i64 t1452), (68, .int .i64 x1441), (69, .int .i64 (mx x1441 1)), (70, .bool (decide (t1452 ≥ (mx x1441 1)))), (71, .bool (decide (t1452 ≥ (mx x1441 1))))] #[true, true, true, true, true, true, true, true, true, true, true, true, true, true, true, true, true, true, true, true, true, true, true, true, true] (by kernel_rfl) (by kernel_rfl) ?_
                          refine ED.done (by kernel_rfl) ?_
                          refine EQ.to ?_
                          refine EQ.keep [2, 7, 8, 9, 53, 54, 55, 56, 57, 58, 59, 60, 63, 64, 67, 68, 69, 70, 71] [(2, .slice (some ad1437) l12.length C14), (7, .pointer (some ⟨g1036, 0, none⟩)), (8, .pointer (some ⟨g1043, 0, none⟩)), (9, .int .i64 x1207), (53, .pointer (some ⟨g1036, 0, none⟩)), (54, .int .i64 t1497), (55, .pointer (some ⟨g1043, 0, none⟩)), (56, .pointer (some ⟨g1043, 0, none⟩)), (57, .pointer (some ⟨g1043, 0, none⟩)), (58, .slice A1515 t1489.length C1516), (59, .int .i64 (t1489.length : Int)), (60, .bool (false)), (63, .int .i64 t1452), (64, .bool (false)), (67, .int .i64 t1452), (68, .int .i64 x1441), (69, .int .i64 (mx x1441 1)), (70, .bool (decide (t1452 ≥ (mx x1441 1)))), (71, .bool (decide (t1452 ≥ (mx x1441 1))))] (by kernel_rfl) ?_
                          exact fun a ha => ⟨A1515, C1516, A1515, C1516, ha, (hS.re [3, 3, 3, 3] [] rfl (sub_cons 0 rfl (sub_cons 0 rfl (sub_cons 1 rfl (sub_cons 1 rfl (sub_cons 3 rfl (sub_cons 4 rfl (sub_cons 4 rfl (sub_cons 4 rfl (sub_cons 7 rfl (sub_tail (sub_tail (sub_tail (sub_tail (sub_tail (sub_tail (sub_tail (sub_tail (sub_self)))))))))))))))))))⟩
                        · refine EO.Y (YO.loadBox hS 0 rfl 22 0 1 (.slice A1515 t1489.length C1516) 58 (by kernel_rfl) (by kernel_rfl) (by kernel_rfl) (by kernel_rfl)) ?_
                          have hC : Core B [Ass.box 89 g1036 [.slice A1453 t1451.length C1454, .func (.func 46) #[.pointer (some ⟨g1037, 0, none⟩)] #[]], Ass.own 5 (Kd.int .u8) A1453 C1454 t1451] [Ro.sl (Kd.int .u8) A1200 C1201 x1199, Ro.sl (Kd.int .u8) A1044 C1045 t1041, Ro.sl (Kd.int .u8) A9 C10 l8, Ro.sl (Kd.int .u8) A9 C10 l8, Ro.sl (Kd.int .u8) A9 C10 l8, Ro.sl (Kd.int .i64) (some ad1437) C14 l12] _ := ⟨_, _, hS.re [3, 3] [] rfl (sub_cons 1 rfl (sub_cons 3 rfl (sub_cons 4 rfl (sub_cons 4 rfl (sub_cons 4 rfl (sub_cons 7 rfl sub_self))))))⟩
                          refine ⟨hC, ?_⟩
                          refine ED.at' #[true, true, true, true, true, true, true, false, true, true, true, true, false, false, false, false, false, false, false, false, false, false, false, false, false] (by kernel_rfl) ?_
                          refine ED.quick hN hF hC [12] [2, 7, 8, 9, 10, 11, 52, 53, 55, 56, 57, 58, 59] 13 [(2, .slice (some ad1437) l12.length C14), (7, .pointer (some ⟨g1036, 0, none⟩)), (8, .pointer (some ⟨g1043, 0, none⟩)), (9, .int .i64 x1207), (10, .int .i64 x1441), (11, .int .i64 t1452), (52, .bool (false)), (53, .pointer (some ⟨g1036, 0, none⟩)), (55, .pointer (some ⟨g1043, 0, none⟩)), (56, .pointer (some ⟨g1043, 0, none⟩)), (57, .pointer (some ⟨g1043, 0, none⟩)), (58, .slice A1515 t1489.length C1516), (59, .int .i64 (t1489.length : Int))] #[true, true, true, true, true, true, true, false, true, true, true, true, true, false, false, false, false, false, false, false, false, false, false, false, false] (by kernel_rfl) (by kernel_rfl) ?_
                          have hS : St B _ (Ass.box 89 g1036 [.slice A1453 t1451.length C1454, .func (.func 46) #[.pointer (some ⟨g1037, 0, none⟩)] #[]] :: Ass.own 5 (Kd.int .u8) A1453 C1454 t1451 :: Ass.box 103 g1037 [.int .u64 t1450] :: Ass.box 33 g1043 [.slice A1515 t1489.length C1516, .int .u64 t1490] :: os) (Ro.sl (Kd.int .u8) A1515 C1516 t1489 :: Ro.sl (Kd.int .u8) A1200 C1201 x1199 :: Ro.sl (Kd.int .u8) A1200 C1201 x1199 :: Ro.sl (Kd.int .u8) A1044 C1045 t1041 :: Ro.sl (Kd.int .u8) A9 C10 l8 :: Ro.sl (Kd.int .u8) A9 C10 l8 :: Ro.sl (Kd.int .u8) A9 C10 l8 :: Ro.sl (Kd.int .i64) (some ad1437) C14 l12 :: rs) := hS.re [1, 3, 3] [] rfl sub_self
                          refine ED.one 7 12 #[true, true, true, true, true, true, true, true, true, true, true, true, true, false, false, false, false, false, false, false, false, false, false, false, false] (by kernel_rfl) (by kernel_rfl) (by kernel_rfl) (EO.callD 18 [.pointer (some ⟨g1036, 0, none⟩)] _ 54 (by kernel_rfl) (by kernel_rfl) (by kernel_rfl) (picks_Picks_Left.calls hc1498 hS) ?_)
                          rintro v w ⟨rfl, hS⟩
                          have hC : Core B [Ass.box 89 g1036 [.slice A1453 t1451.length C1454, .func (.func 46) #[.pointer (some ⟨g1037, 0, none⟩)] #[]], Ass.own 5 (Kd.int .u8) A1453 C1454 t1451] [Ro.sl (Kd.int .u8) A1200 C1201 x1199, Ro.sl (Kd.int .u8) A1044 C1045 t1041, Ro.sl (Kd.int .u8) A9 C10 l8, Ro.sl (Kd.int .u8) A9 C10 l8, Ro.sl (Kd.int .u8) A9 C10 l8, Ro.sl (Kd.int .i64) (some ad1437) C14 l12] _ := ⟨_, _, hS.re [1, 1] [] rfl (sub_cons 1 rfl (sub_cons 3 rfl (sub_cons 4 rfl (sub_cons 4 rfl (sub_cons 4 rfl (sub_cons 7 rfl sub_self))))))⟩
                          refine ⟨hC, ?_⟩
                          refine ED.quick hN hF hC [13, 14, 15] [2, 7, 8, 9, 10, 11, 53, 54, 55, 56, 57, 58, 59, 60, 62] 9 [(2, .slice (some ad1437) l12.length C14), (7, .pointer (some ⟨g1036, 0, none⟩)), (8, .pointer (some ⟨g1043, 0, none⟩)), (9, .int .i64 x1207), (10, .int .i64 x1441), (11, .int .i64 t1452), (53, .pointer (some ⟨g1036, 0, none⟩)), (54, .int .i64 t1497), (55, .pointer (some ⟨g1043, 0, none⟩)), (56, .pointer (some ⟨g1043, 0, none⟩)), (57, .pointer (some ⟨g1043, 0, none⟩)), (58, .slice A1515 t1489.length C1516), (59, .int .i64 (t1489.length : Int)), (60, .bool (!(decide (t1497 = (t1489.length : Int))))), (62, .bool (!(decide (t1497 = (t1489.length : Int)))))] #[true, true, true, true, true, true, true, true, true, true, true, true, true, true, true, true, false, false, false, false, false, false, false, false, false] (by kernel_rfl) (by kernel_rfl) ?_
                          refine ED.keep [2, 7, 8, 9, 10, 11, 53, 54, 55, 56, 57, 58, 59, 60, 62] [(2, .slice (some ad1437) l12.length C14), (7, .pointer (some ⟨g1036, 0, none⟩)), (8, .pointer (some ⟨g1043, 0, none⟩)), (9, .int .i64 x1207), (10, .int .i64 x1441), (11, .int .i64 t1452), (53, .pointer (some ⟨g1036, 0, none⟩)), (54, .int .i64 t1497), (55, .pointer (some ⟨g1043, 0, none⟩)), (56, .pointer (some ⟨g1043, 0, none⟩)), (57, .pointer (some ⟨g1043, 0, none⟩)), (58, .slice A1515 t1489.length C1516), (59, .int .i64 (t1489.length : Int)), (60, .bool (!(decide (t1497 = (t1489.length : Int))))), (62, .bool (!(decide (t1497 = (t1489.length : Int)))))] (by kernel_rfl) ?_
                          refine ED.as' [(2, .slice (some ad1437) l12.length C14), (7, .pointer (some ⟨g1036, 0, none⟩)), (8, .pointer (some ⟨g1043, 0, none⟩)), (9, .int .i64 x1207), (10, .int .i64 x1441), (11, .int .i64 t1452), (53, .pointer (some ⟨g1036, 0, none⟩)), (54, .int .i64 t1497), (55, .pointer (some ⟨g1043, 0, none⟩)), (56, .pointer (some ⟨g1043, 0, none⟩)), (57, .pointer (some ⟨g1043, 0, none⟩)), (58, .slice A1515 t1489.length C1516), (59, .int .i64 (t1489.length : Int)), (60, .bool (false)), (62, .bool (false))] (by simp only [dec_t h1499, Bool.not_true, Bool.not_false]) ?_
                          refine ED.quick hN hF hC [16, 17, 18, 19] [2, 7, 8, 9, 10, 11, 53, 54, 55, 56, 57, 58, 59, 60, 63, 64, 66] 5 [(2, .slice (some ad1437) l12.length C14), (7, .pointer (some ⟨g1036, 0, none⟩)), (8, .pointer (some ⟨g1043, 0, none⟩)), (9, .int .i64 x1207), (10, .int .i64 x1441), (11, .int .i64 t1452), (53, .pointer (some ⟨g1036, 0, none⟩)), (54, .int .i64 t1497), (55, .pointer (some ⟨g1043, 0, none⟩)), (56, .pointer (some ⟨g1043, 0, none⟩)), (57, .pointer (some ⟨g1043, 0, none⟩)), (58, .slice A1515 t1489.length C1516), (59, .int .i64 (t1489.length : Int)), (60, .bool (false)), (63, .int .i64 t1452), (64, .bool (decide (t1452 < 0))), (66, .bool (decide (t1452 < 0)))] #[true, true, true, true, true, true, true, true, true, true, true, true, true, true, true, true, true, true, true, true, false, false, false, false, false] (by kernel_rfl) (by kernel_rfl) ?_
                          refine ED.keep [2, 7, 8, 9, 10, 11, 53, 54, 55, 56, 57, 58, 59, 60, 63, 64, 66] [(2, .slice (some ad1437) l12.length C14), (7, .pointer (some ⟨g1036, 0, none⟩)), (8, .pointer (some ⟨g1043, 0, none⟩)), (9, .int .i64 x1207), (10, .int .i64 x1441), (11, .int .i64 t1452), (53, .pointer (some ⟨g1036, 0, none⟩)), (54, .int .i64 t1497), (55, .pointer (some ⟨g1043, 0, none⟩)), (56, .pointer (some ⟨g1043, 0, none⟩)), (57, .pointer (some ⟨g1043, 0, none⟩)), (58, .slice A1515 t1489.length C1516), (59, .int .i64 (t1489.length : Int)), (60, .bool (false)), (63, .int .i64 t1452), (64, .bool (decide (t1452 < 0))), (66, .bool (decide (t1452 < 0)))] (by kernel_rfl) ?_
                          refine ED.as' [(2, .slice (some ad1437) l12.length C14), (7, .pointer (some ⟨g1036, 0, none⟩)), (8, .pointer (some ⟨g1043, 0, none⟩)), (9, .int .i64 x1207), (10, .int .i64 x1441), (11, .int .i64 t1452), (53, .pointer (some ⟨g1036, 0, none⟩)), (54, .int .i64 t1497), (55, .pointer (some ⟨g1043, 0, none⟩)), (56, .pointer (some ⟨g1043, 0, none⟩)), (57, .pointer (some ⟨g1043, 0, none⟩)), (58, .slice A1515 t1489.length C1516), (59, .int .i64 (t1489.length : Int)), (60, .bool (false)), (63, .int .i64 t1452), (64, .bool (false)), (66, .bool (false))] (by simp only [dec_f h1500, Bool.not_true, Bool.not_false]) ?_
                          refine ED.quick hN hF hC [20, 21, 22, 23, 24] [2, 7, 8, 9, 53, 54, 55, 56, 57, 58, 59, 60, 63, 64, 67, 68, 69, 70, 71] 0 [(2, .slice (some ad1437) l12.length C14), (7, .pointer (some ⟨g1036, 0, none⟩)), (8, .pointer (some ⟨g1043, 0, none⟩)), (9, .int .i64 x1207), (53, .pointer (some ⟨g1036, 0, none⟩)), (54, .int .i64 t1497), (55, .pointer (some ⟨g1043, 0, none⟩)), (56, .pointer (some ⟨g1043, 0, none⟩)), (57, .pointer (some ⟨g1043, 0, none⟩)), (58, .slice A1515 t1489.length C1516), (59, .int .i64 (t1489.length : Int)), (60, .bool (false)), (63, .int .i64 t1452), (64, .bool (false)), (67, .int .i64 t1452), (68, .int .i64 x1441), (69, .int .i64 (mx x1441 1)), (70, .bool (decide (t1452 ≥ (mx x1441 1)))), (71, .bool (decide (t1452 ≥ (mx x1441 1))))] #[true, true, true, true, true, true, true, true, true, true, true, true, true, true, true, true, true, true, true, true, true, true, true, true, true] (by kernel_rfl) (by kernel_rfl) ?_
                          refine ED.done (by kernel_rfl) ?_
                          refine EQ.to ?_
                          refine EQ.keep [2, 7, 8, 9, 53, 54, 55, 56, 57, 58, 59, 60, 63, 64, 67, 68, 69, 70, 71] [(2, .slice (some ad1437) l12.length C14), (7, .pointer (some ⟨g1036, 0, none⟩)), (8, .pointer (some ⟨g1043, 0, none⟩)), (9, .int .i64 x1207), (53, .pointer (some ⟨g1036, 0, none⟩)), (54, .int .i64 t1497), (55, .pointer (some ⟨g1043, 0, none⟩)), (56, .pointer (some ⟨g1043, 0, none⟩)), (57, .pointer (some ⟨g1043, 0, none⟩)), (58, .slice A1515 t1489.length C1516), (59, .int .i64 (t1489.length : Int)), (60, .bool (false)), (63, .int .i64 t1452), (64, .bool (false)), (67, .int .i64 t1452), (68, .int .i64 x1441), (69, .int .i64 (mx x1441 1)), (70, .bool (decide (t1452 ≥ (mx x1441 1)))), (71, .bool (decide (t1452 ≥ (mx x1441 1))))] (by kernel_rfl) ?_
                          exact fun a ha => ⟨A1515, C1516, A1515, C1516, ha, (hS.re [3, 3, 3, 3] [] rfl (sub_cons 0 rfl (sub_cons 0 rfl (sub_cons 1 rfl (sub_cons 1 rfl (sub_cons 3 rfl (sub_cons 4 rfl (sub_cons 4 rfl (sub_cons 4 rfl (sub_cons 7 rfl (sub_tail (sub_tail (sub_tail (sub_tail (sub_tail (sub_tail (sub_tail (sub_tail (sub_self)))))))))))))))))))⟩
                      · obtain ⟨A1511, C1512, A1513, C1514, ha, hS⟩ := hI
                        refine EQ.at ?_ a ha
                        clear ha a
                        refine EQ.to ?_
                        refine EQ.keep [2, 7, 8, 9, 71] [(2, .slice (some ad1437) l12.length C14), (7, .pointer (some ⟨g1036, 0, none⟩)), (8, .pointer (some ⟨g1043, 0, none⟩)), (9, .int .i64 x1207), (71, .bool (decide (t1452 ≥ (mx x1441 1))))] (by kernel_rfl) ?_
                        exact fun a ha => ⟨t1496, t1489, t1490, decide (t1452 ≥ (mx x1441 1)), A1511, C1512, ha, (hS.re [3, 3, 3, 3] [] rfl (sub_cons 0 rfl (sub_cons 2 rfl (sub_cons 2 rfl (sub_cons 4 rfl (sub_cons 5 rfl (sub_cons 5 rfl (sub_cons 5 rfl (sub_cons 8 rfl (sub_tail (sub_tail (sub_tail (sub_tail (sub_tail (sub_tail (sub_tail (sub_tail (sub_tail (sub_self))))))))))))))))))), H⟩
                  · rw [if_neg h1499] at H
                    refine EW.meet (id := 13) (ops := Cd3.r.r.r.r.l.r.l.l.r.l.l.r.r.r.l.ops) (fun a w => ∃ A1519 : Option Addr, ∃ C1520 : Nat, ∃ A1521 : Option Addr, ∃ C1522 : Nat, Sat 72 [(2, .slice (some ad1437) l12.length C14), (7, .pointer (some ⟨g1036, 0, none⟩)), (8, .pointer (some ⟨g1043, 0, none⟩)), (9, .int .i64 x1207), (53, .pointer (some ⟨g1036, 0, none⟩)), (54, .int .i64 t1497), (55, .pointer (some ⟨g1043, 0, none⟩)), (56, .pointer (some ⟨g1043, 0, none⟩)), (57, .pointer (some ⟨g1043, 0, none⟩)), (58, .slice A1521 t1489.length C1522), (59, .int .i64 (t1489.length : Int)), (60, .bool (true)), (71, .bool (true))] a ∧ St B w (Ass.box 89 g1036 [.slice A1453 t1451.length C1454, .func (.func 46) #[.pointer (some ⟨g1037, 0, none⟩)] #[]] :: Ass.own 5 (Kd.int .u8) A1453 C1454 t1451 :: Ass.box 103 g1037 [.int .u64 t1496] :: Ass.box 33 g1043 [.slice A1519 t1489.length C1520, .int .u64 t1490] :: os) (Ro.sl (Kd.int .u8) A1519 C1520 t1489 :: Ro.sl (Kd.int .u8) A1521 C1522 t1489 :: Ro.sl (Kd.int .u8) A1200 C1201 x1199 :: Ro.sl (Kd.int .u8) A1200 C1201 x1199 :: Ro.sl (Kd.int .u8) A1044 C1045 t1041 :: Ro.sl (Kd.int .u8) A9 C10 l8 :: Ro.sl (Kd.int .u8) A9 C10 l8 :: Ro.sl (Kd.int .u8) A9 C10 l8 :: Ro.sl (Kd.int .i64) (some ad1437) C14 l12 :: rs)) (by kernel_rfl) ?_ (fun a w hI => ?_)
                    · have hS := hS.drew
                      refine EW.draw (B := B) (id := 13) (ops := Cd3.r.r.r.r.l.r.l.l.r.l.l.r.r.r.l.ops) [Ass.box 89 g1036 [.slice A1453 t1451.length C1454, .func (.func 46) #[.pointer (some ⟨g1037, 0, none⟩)] #[]], Ass.own 5 (Kd.int .u8) A1453 C1454 t1451] [Ro.sl (Kd.int .u8) A1200 C1201 x1199, Ro.sl (Kd.int .u8) A1044 C1045 t1041, Ro.sl (Kd.int .u8) A9 C10 l8, Ro.sl (Kd.int .u8) A9 C10 l8, Ro.sl (Kd.int .u8) A9 C10 l8, Ro.sl (Kd.int .i64) (some ad1437) C14 l12] (by kernel_rfl) (by kernel_rfl) ?_
                      have hN : Region.noSelect Cd3.r.r.r.r.l.r.l.l.r.l.l.r.r.r.l.ops = true := (by kernel_rfl)
                      have hF : freeAll Cd3.r.r.r.r.l.r.l.l.r.l.l.r.r.r.l.ops = true := (by kernel_rfl)
                      have hC : Core B [Ass.box 89 g1036 [.slice A1453 t1451.length C1454, .func (.func 46) #[.pointer (some ⟨g1037, 0, none⟩)] #[]], Ass.own 5 (Kd.int .u8) A1453 C1454 t1451] [Ro.sl (Kd.int .u8) A1200 C1201 x1199, Ro.sl (Kd.int .u8) A1044 C1045 t1041, Ro.sl (Kd.int .u8) A9 C10 l8, Ro.sl (Kd.int .u8) A9 C10 l8, Ro.sl (Kd.int .u8) A9 C10 l8, Ro.sl (Kd.int .i64) (some ad1437) C14 l12] _ := ⟨_, _, hS.re [2, 2] [] rfl sub_self⟩
                      refine ED.quick hN hF hC [0, 1, 2] [2, 7, 8, 9, 10, 11, 47, 48, 49] 22 [(2, .slice (some ad1437) l12.length C14), (7, .pointer (some ⟨g1036, 0, none⟩)), (8, .pointer (some ⟨g1043, 0, none⟩)), (9, .int .i64 x1207), (10, .int .i64 x1441), (11, .int .i64 t1452), (47, .int .i64 t1452), (48, .pointer (some ⟨g1043, 0, none⟩)), (49, .int .i64 x1441)] #[true, true, true, false, false, false, false, false, false, false, false, false, false, false, false, false, false, false, false, false, false, false, false, false, false] (by kernel_rfl) (by kernel_rfl) ?_
                      have hS : St B _ (Ass.box 33 g1043 [.slice A1200 x1199.length C1201, .int .u64 x1202] :: Ass.box 103 g1037 [.int .u64 t1450] :: Ass.box 89 g1036 [.slice A1453 t1451.length C1454, .func (.func 46) #[.pointer (some ⟨g1037, 0, none⟩)] #[]] :: Ass.own 5 (Kd.int .u8) A1453 C1454 t1451 :: os) (Ro.sl (Kd.int .u8) A1200 C1201 x1199 :: Ro.sl (Kd.int .u8) A1200 C1201 x1199 :: Ro.sl (Kd.int .u8) A1044 C1045 t1041 :: Ro.sl (Kd.int .u8) A9 C10 l8 :: Ro.sl (Kd.int .u8) A9 C10 l8 :: Ro.sl (Kd.int .u8) A9 C10 l8 :: Ro.sl (Kd.int .i64) (some ad1437) C14 l12 :: rs) := hS.re [3] [] rfl (sub_cons 0 rfl sub_self)
                      refine ED.one 3 21 #[true, true, true, true, false, false, false, false, false, false, false, false, false, false, false, false, false, false, false, false, false, false, false, false, false] (by kernel_rfl) (by kernel_rfl) (by kernel_rfl) (EO.callD 17 [.pointer (some ⟨g1043, 0, none⟩), .int .i64 x1441] _ 50 (by kernel_rfl) (by kernel_rfl) (by kernel_rfl) (confidantref15_Picks_Next.calls hc1494 hS) ?_)
                      rintro v w ⟨A1523, C1524, rfl, hS⟩
                      have hC : Core B [Ass.box 89 g1036 [.slice A1453 t1451.length C1454, .func (.func 46) #[.pointer (some ⟨g1037, 0, none⟩)] #[]], Ass.own 5 (Kd.int .u8) A1453 C1454 t1451] [Ro.sl (Kd.int .u8) A1200 C1201 x1199, Ro.sl (Kd.int .u8) A1044 C1045 t1041, Ro.sl (Kd.int .u8) A9 C10 l8, Ro.sl (Kd.int .u8) A9 C10 l8, Ro.sl (Kd.int .u8) A9 C10 l8, Ro.sl (Kd.int .i64) (some ad1437) C14 l12] _ := ⟨_, _, hS.re [3, 3] [] rfl (sub_cons 1 rfl (sub_cons 3 rfl (sub_cons 4 rfl (sub_cons 4 rfl (sub_cons 4 rfl (sub_cons 7 rfl sub_self))))))⟩
                      refine ⟨hC, ?_⟩
                      refine ED.quick hN hF hC [4, 5] [2, 7, 8, 9, 10, 11, 52] 19 [(2, .slice (some ad1437) l12.length C14), (7, .pointer (some ⟨g1036, 0, none⟩)), (8, .pointer (some ⟨g1043, 0, none⟩)), (9, .int .i64 x1207), (10, .int .i64 x1441), (11, .int .i64 t1452), (52, .bool (!(decide (t1452 = t1491))))] #[true, true, true, true, true, true, false, false, false, false, false, false, false, false, false, false, false, false, false, false, false, false, false, false, false] (by kernel_rfl) (by kernel_rfl) ?_
                      refine ED.keep [2, 7, 8, 9, 10, 11, 52] [(2, .slice (some ad1437) l12.length C14), (7, .pointer (some ⟨g1036, 0, none⟩)), (8, .pointer (some ⟨g1043, 0, none⟩)), (9, .int .i64 x1207), (10, .int .i64 x1441), (11, .int .i64 t1452), (52, .bool (!(decide (t1452 = t1491))))] (by kernel_rfl) ?_
                      refine ED.as' [(2, .slice (some ad1437) l12.length C14), (7, .pointer (some ⟨g1036, 0, none⟩)), (8, .pointer (some ⟨g1043, 0, none⟩)), (9, .int .i64 x1207), (10, .int .i64 x1441), (11, .int .i64 t1452), (52, .bool (false))] (by simp only [dec_t h1495, Bool.not_true, Bool.not_false]) ?_
                      refine ED.quick hN hF hC [6, 8, 9, 10] [2, 7, 8, 9, 10, 11, 52, 53, 55, 56, 57] 15 [(2, .slice (some ad1437) l12.length C14), (7, .pointer (some ⟨g1036, 0, none⟩)), (8, .pointer (some ⟨g1043, 0, none⟩)), (9, .int .i64 x1207), (10, .int .i64 x1441), (11, .int .i64 t1452), (52, .bool (false)), (53, .pointer (some ⟨g1036, 0, none⟩)), (55, .pointer (some ⟨g1043, 0, none⟩)), (56, .pointer (some ⟨g1043, 0, none⟩)), (57, .pointer (some ⟨g1043, 0, none⟩))] #[true, true, true, true, true, true, true, false, true, true, true, false, false, false, false, false, false, false, false, false, false, false, false, false, false] (by kernel_rfl) (by kernel_rfl) ?_
                      refine ED.two 7 11 14 (by kernel_rfl) (by kernel_rfl) ?_ ?_
                      · have hS : St B _ (Ass.box 89 g1036 [.slice A1453 t1451.length C1454, .func (.func 46) #[.pointer (some ⟨g1037, 0, none⟩)] #[]] :: Ass.own 5 (Kd.int .u8) A1453 C1454 t1451 :: Ass.box 103 g1037 [.int .u64 t1450] :: Ass.box 33 g1043 [.slice A1523 t1489.length C1524, .int .u64 t1490] :: os) (Ro.sl (Kd.int .u8) A1523 C1524 t1489 :: Ro.sl (Kd.int .u8) A1200 C1201 x1199 :: Ro.sl (Kd.int .u8) A1200 C1201 x1199 :: Ro.sl (Kd.int .u8) A1044 C1045 t1041 :: Ro.sl (Kd.int .u8) A9 C10 l8 :: Ro.sl (Kd.int .u8) A9 C10 l8 :: Ro.sl (Kd.int .u8) A9 C10 l8 :: Ro.sl (Kd.int .i64) (some ad1437) C14 l12 :: rs) := hS.re [1, 3, 3] [] rfl sub_self
                        refine EO.callD 18 [.pointer (some ⟨g1036, 0, none⟩)] _ 54 (by kernel_rfl) (by kernel_rfl) (by kernel_rfl) (picks_Picks_Left.calls hc1498 hS) ?_
                        rintro v w ⟨rfl, hS⟩
                        have hC : Core B [Ass.box 89 g1036 [.slice A1453 t1451.length C1454, .func (.func 46) #[.pointer (some ⟨g1037, 0, none⟩)] #[]], Ass.own 5 (Kd.int .u8) A1453 C1454 t1451] [Ro.sl (Kd.int .u8) A1200 C1201 x1199, Ro.sl (Kd.int .u8) A1044 C1045 t1041, Ro.sl (Kd.int .u8) A9 C10 l8, Ro.sl (Kd.int .u8) A9 C10 l8, Ro.sl (Kd.int .u8) A9 C10 l8, Ro.sl (Kd.int .i64) (some ad1437) C14 l12] _ := ⟨_, _, hS.re [1, 1] [] rfl (sub_cons 1 rfl (sub_cons 3 rfl (sub_cons 4 rfl (sub_cons 4 rfl (sub_cons 4 rfl (sub_cons 7 rfl sub_self))))))⟩
                        refine ⟨hC, ?_⟩
                        refine ED.at' #[true, true, true, true, true, true, true, true, true, true, true, false, false, false, false, false, false, false, false, false, false, false, false, false, false] (by kernel_rfl) ?_
                        refine ED.one 11 13 #[true, true, true, true, true, true, true, true, true, true, true, true, false, false, false, false, false, false, false, false, false, false, false, false, false] (by kernel_rfl) (by kernel_rfl) (by kernel_rfl) (EO.Y (YO.loadBox hS 3 rfl 22 0 1 (.slice A1523 t1489.length C1524) 58 (by kernel_rfl) (by kernel_rfl) (by kernel_rfl) (by kernel_rfl)) ?_)
                        have hC : Core B [Ass.box 89 g1036 [.slice A1453 t1451.length C1454, .func (.func 46) #[.pointer (some ⟨g1037, 0, none⟩)] #[]], Ass.own 5 (Kd.int .u8) A1453 C1454 t1451] [Ro.sl (Kd.int .u8) A1200 C1201 x1199, Ro.sl (Kd.int .u8) A1044 C1045 t1041, Ro.sl (Kd.int .u8) A9 C10 l8, Ro.sl (Kd.int .u8) A9 C10 l8, Ro.sl (Kd.int .u8) A9 C10 l8, Ro.sl (Kd.int .i64) (some ad1437) C14 l12] _ := ⟨_, _, hS.re [1, 1] [] rfl (sub_cons 1 rfl (sub_cons 3 rfl (sub_cons 4 rfl (sub_cons 4 rfl (sub_cons 4 rfl (sub_cons 7 rfl sub_self))))))⟩
                        refine ⟨hC, ?_⟩
                        refine ED.quick hN hF hC [12, 13, 14, 15] [2, 7, 8, 9, 10, 11, 53, 54, 55, 56, 57, 58, 59, 60, 62] 9 [(2, .slice (some ad1437) l12.length C14), (7, .pointer (some ⟨g1036, 0, none⟩)), (8, .pointer (some ⟨g1043, 0, none⟩)), (9, .int .i64 x1207), (10, .int .i64 x1441), (11, .int .i64 t1452), (53, .pointer (some ⟨g1036, 0, none⟩)), (54, .int .i64 t1497), (55, .pointer (some ⟨g1043, 0, none⟩)), (56, .pointer (some ⟨g1043, 0, none⟩)), (57, .pointer (some ⟨g1043, 0, none⟩)), (58, .slice A1523 t1489.length C1524), (59, .int .i64 (t1489.length : Int)), (60, .bool (!(decide (t1497 = (t1489.length : Int))))), (62, .bool (!(decide (t1497 = (t1489.length : Int)))))] #[true, true, true, true, true, true, true, true, true, true, true, true, true, true, true, true, false, false, false, false, false, false, false, false, false] (by kernel_rfl) (by kernel_rfl) ?_
                        refine ED.keep [2, 7, 8, 9, 10, 11, 53, 54, 55, 56, 57, 58, 59, 60, 62] [(2, .slice (some ad1437) l12.length C14), (7, .pointer (some ⟨g1036, 0, none⟩)), (8, .pointer (some ⟨g1043, 0, none⟩)), (9, .int .i64 x1207), (10, .int .i64 x1441), (11, .int .i64 t1452), (53, .pointer (some ⟨g1036, 0, none⟩)), (54, .int .i64 t1497), (55, .pointer (some ⟨g1043, 0, none⟩)), (56, .pointer (some ⟨g1043, 0, none⟩)), (57, .pointer (some ⟨g1043, 0, none⟩)), (58, .slice A1523 t1489.length C1524), (59, .int .i64 (t1489.length : Int)), (60, .bool (!(decide (t1497 = (t1489.length : Int))))), (62, .bool (!(decide (t1497 = (t1489.length : Int)))))] (by kernel_rfl) ?_
                        refine ED.as' [(2, .slice (some ad1437) l12.length C14), (7, .pointer (some ⟨g1036, 0, none⟩)), (8, .pointer (some ⟨g1043, 0, none⟩)), (9, .int .i64 x1207), (10, .int .i64 x1441), (11, .int .i64 t1452), (53, .pointer (some ⟨g1036, 0, none⟩)), (54, .int .i64 t1497), (55, .pointer (some ⟨g1043, 0, none⟩)), (56, .pointer (some ⟨g1043, 0, none⟩)), (57, .pointer (some ⟨g1043, 0, none⟩)), (58, .slice A1523 t1489.length C1524), (59, .int .i64 (t1489.length : Int)), (60, .bool (true)), (62, .bool (true))] (by simp only [dec_f h1499, Bool.not_true, Bool.not_false]) ?_
                        refine ED.quick hN hF hC [16, 17, 18, 19, 20, 21, 22, 23, 24] [2, 7, 8, 9, 53, 54, 55, 56, 57, 58, 59, 60, 63, 64, 67, 68, 69, 70, 71] 0 [(2, .slice (some ad1437) l12.length C14), (7, .pointer (some ⟨g1036, 0, none⟩)), (8, .pointer (some ⟨g1043, 0, none⟩)), (9, .int .i64 x1207), (53, .pointer (some ⟨g1036, 0, none⟩)), (54, .int .i64 t1497), (55, .pointer (some ⟨g1043, 0, none⟩)), (56, .pointer (some ⟨g1043, 0, none⟩)), (57, .pointer (some ⟨g1043, 0, none⟩)), (58, .slice A1523 t1489.length C1524), (59, .int .i64 (t1489.length : Int)), (60, .bool (true)), (63, undef), (64, undef), (67, undef), (68, undef), (69, undef), (70, undef), (71, .bool (true))] #[true, true, true, true, true, true, true, true, true, true, true, true, true, true, true, true, true, true, true, true, true, true, true, true, true] (by kernel_rfl) (by kernel_rfl) ?_
                        refine ED.done (by kernel_rfl) ?_
                        refine EQ.to ?_
                        refine EQ.keep [2, 7, 8, 9, 53, 54, 55, 56, 57, 58, 59, 60, 71] [(2, .slice (some ad1437) l12.length C14), (7, .pointer (some ⟨g1036, 0, none⟩)), (8, .pointer (some ⟨g1043, 0, none⟩)), (9, .int .i64 x1207), (53, .pointer (some ⟨g1036, 0, none⟩)), (54, .int .i64 t1497), (55, .pointer (some ⟨g1043, 0, none⟩)), (56, .pointer (some ⟨g1043, 0, none⟩)), (57, .pointer (some ⟨g1043, 0, none⟩)), (58, .slice A1523 t1489.length C1524), (59, .int .i64 (t1489.length : Int)), (60, .bool (true)), (71, .bool (true))] (by kernel_rfl) ?_
                        exact fun a ha => ⟨A1523, C1524, A1523, C1524, ha, (hS.re [3, 3, 3, 3] [] rfl (sub_cons 0 rfl (sub_cons 0 rfl (sub_cons 1 rfl (sub_cons 1 rfl (sub_cons 3 rfl (sub_cons 4 rfl (sub_cons 4 rfl (sub_cons 4 rfl (sub_cons 7 rfl (sub_tail (sub_tail (sub_tail (sub_tail (sub_tail (sub_tail (sub_tail (sub_tail (sub_self)))))))))))))))))))⟩
                      · refine EO.Y (YO.loadBox hS 0 rfl 22 0 1 (.slice A1523 t1489.length C1524) 58 (by kernel_rfl) (by kernel_rfl) (by kernel_rfl) (by kernel_rfl)) ?_
                        have hC : Core B [Ass.box 89 g1036 [.slice A1453 t1451.length C1454, .func (.func 46) #[.pointer (some ⟨g1037, 0, none⟩)] #[]], Ass.own 5 (Kd.int .u8) A1453 C1454 t1451] [Ro.sl (Kd.int .u8) A1200 C1201 x1199, Ro.sl (Kd.int .u8) A1044 C1045 t1041, Ro.sl (Kd.int .u8) A9 C10 l8, Ro.sl (Kd.int .u8) A9 C10 l8, Ro.sl (Kd.int .u8) A9 C10 l8, Ro.sl (Kd.int .i64) (some ad1437) C14 l12] _ := ⟨_, _, hS.re [3, 3] [] rfl (sub_cons 1 rfl (sub_cons 3 rfl (sub_cons 4 rfl (sub_cons 4 rfl (sub_cons 4 rfl (sub_cons 7 rfl sub_self))))))⟩
                        refine ⟨hC, ?_⟩
                        refine ED.at' #[true, true, true, true, true, true, true, false, true, true, true, true, false, false, false, false, false, false, false, false, false, false, false, false, false] (by kernel_rfl) ?_
                        refine ED.quick hN hF hC [12] [2, 7, 8, 9, 10, 11, 52, 53, 55, 56, 57, 58, 59] 13 [(2, .slice (some ad1437) l12.length C14), (7, .pointer (some ⟨g1036, 0, none⟩)), (8, .pointer (some ⟨g1043, 0, none⟩)), (9, .int .i64 x1207), (10, .int .i64 x1441), (11, .int .i64 t1452), (52, .bool (false)), (53, .pointer (some ⟨g1036, 0, none⟩)), (55, .pointer (some ⟨g1043, 0, none⟩)), (56, .pointer (some ⟨g1043, 0, none⟩)), (57, .pointer (some ⟨g1043, 0, none⟩)), (58, .slice A1523 t1489.length C1524), (59, .int .i64 (t1489.length : Int))] #[true, true, true, true, true, true, true, false, true, true, true, true, true, false, false, false, false, false, false, false, false, false, false, false, false] (by kernel_rfl) (by kernel_rfl) ?_
                        have hS : St B _ (Ass.box 89 g1036 [.slice A1453 t1451.length C1454, .func (.func 46) #[.pointer (some ⟨g1037, 0, none⟩)] #[]] :: Ass.own 5 (Kd.int .u8) A1453 C1454 t1451 :: Ass.box 103 g1037 [.int .u64 t1450] :: Ass.box 33 g1043 [.slice A1523 t1489.length C1524, .int .u64 t1490] :: os) (Ro.sl (Kd.int .u8) A1523 C1524 t1489 :: Ro.sl (Kd.int .u8) A1200 C1201 x1199 :: Ro.sl (Kd.int .u8) A1200 C1201 x1199 :: Ro.sl (Kd.int .u8) A1044 C1045 t1041 :: Ro.sl (Kd.int .u8) A9 C10 l8 :: Ro.sl (Kd.int .u8) A9 C10 l8 :: Ro.sl (Kd.int .u8) A9 C10 l8 :: Ro.sl (Kd.int .i64) (some ad1437) C14 l12 :: rs) := hS.re [1, 3, 3] [] rfl sub_self
                        refine ED.one 7 12 #[true, true, true, true, true, true, true, true, true, true, true, true, true, false, false, false, false, false, false, false, false, false, false, false, false] (by kernel_rfl) (by kernel_rfl) (by kernel_rfl) (EO.callD 18 [.pointer (some ⟨g1036, 0, none⟩)] _ 54 (by kernel_rfl) (by kernel_rfl) (by kernel_rfl) (picks_Picks_Left.calls hc1498 hS) ?_)
                        rintro v w ⟨rfl, hS⟩
                        have hC : Core B [Ass.box 89 g1036 [.slice A1453 t1451.length C1454, .func (.func 46) #[.pointer (some ⟨g1037, 0, none⟩)] #[]], Ass.own 5 (Kd.int .u8) A1453 C1454 t1451] [Ro.sl (Kd.int .u8) A1200 C1201 x1199, Ro.sl (Kd.int .u8) A1044 C1045 t1041, Ro.sl (Kd.int .u8) A9 C10 l8, Ro.sl (Kd.int .u8) A9 C10 l8, Ro.sl (Kd.int .u8) A9 C10 l8, Ro.sl (Kd.int .i64) (some ad1437) C14 l12] _ := ⟨_, _, hS.re [1, 1] [] rfl (sub_cons 1 rfl (sub_cons 3 rfl (sub_cons 4 rfl (sub_cons 4 rfl (sub_cons 4 rfl (sub_cons 7 rfl sub_self))))))⟩
                        refine ⟨hC, ?_⟩
                        refine ED.quick hN hF hC [13, 14, 15] [2, 7, 8, 9, 10, 11, 53, 54, 55, 56, 57, 58, 59, 60, 62] 9 [(2, .slice (some ad1437) l12.length C14), (7, .pointer (some ⟨g1036, 0, none⟩)), (8, .pointer (some ⟨g1043, 0, none⟩)), (9, .int .i64 x1207), (10, .int .i64 x1441), (11, .int .i64 t1452), (53, .pointer (some ⟨g1036, 0, none⟩)), (54, .int .i64 t1497), (55, .pointer (some ⟨g1043, 0, none⟩)), (56, .pointer (some ⟨g1043, 0, none⟩)), (57, .pointer (some ⟨g1043, 0, none⟩)), (58, .slice A1523 t1489.length C1524), (59, .int .i64 (t1489.length : Int)), (60, .bool (!(decide (t1497 = (t1489.length : Int))))), (62, .bool (!(decide (t1497 = (t1489.length : Int)))))] #[true, true, true, true, true, true, true, true, true, true, true, true, true, true, true, true, false, false, false, false, false, false, false, false, false] (by kernel_rfl) (by kernel_rfl) ?_
                        refine ED.keep [2, 7, 8, 9, 10, 11, 53, 54, 55, 56, 57, 58, 59, 60, 62] [(2, .slice (some ad1437) l12.length C14), (7, .pointer (some ⟨g1036, 0, none⟩)), (8, .pointer (some ⟨g1043, 0, none⟩)), (9, .int .i64 x1207), (10, .int .i64 x1441), (11, .int .i64 t1452), (53, .pointer (some ⟨g1036, 0, none⟩)), (54, .int .i64 t1497), (55, .pointer (some ⟨g1043, 0, none⟩)), (56, .pointer (some ⟨g1043, 0, none⟩)), (57, .pointer (some ⟨g1043, 0, none⟩)), (58, .slice A1523 t1489.length C1524), (59, .int .i64 (t1489.length : Int)), (60, .bool (!(decide (t1497 = (t1489.length : Int))))), (62, .bool (!(decide (t1497 = (t1489.length : Int)))))] (by kernel_rfl) ?_
                        refine ED.as' [(2, .slice (some ad1437) l12.length C14), (7, .pointer (some ⟨g1036, 0, none⟩)), (8, .pointer (some ⟨g1043, 0, none⟩)), (9, .int .i64 x1207), (10, .int .i64 x1441), (11, .int .i64 t1452), (53, .pointer (some ⟨g1036, 0, none⟩)), (54, .int .i64 t1497), (55, .pointer (some ⟨g1043, 0, none⟩)), (56, .pointer (some ⟨g1043, 0, none⟩)), (57, .pointer (some ⟨g1043, 0, none⟩)), (58, .slice A1523 t1489.length C1524), (59, .int .i64 (t1489.length : Int)), (60, .bool (true)), (62, .bool (true))] (by simp only [dec_f h1499, Bool.not_true, Bool.not_false]) ?_
                        refine ED.quick hN hF hC [16, 17, 18, 19, 20, 21, 22, 23, 24] [2, 7, 8, 9, 53, 54, 55, 56, 57, 58, 59, 60, 63, 64, 67, 68, 69, 70, 71] 0 [(2, .slice (some ad1437) l12.length C14), (7, .pointer (some ⟨g1036, 0, none⟩)), (8, .pointer (some ⟨g1043, 0, none⟩)), (9, .int .i64 x1207), (53, .pointer (some ⟨g1036, 0, none⟩)), (54, .int .i64 t1497), (55, .pointer (some ⟨g1043, 0, none⟩)), (56, .pointer (some ⟨g1043, 0, none⟩)), (57, .pointer (some ⟨g1043, 0, none⟩)), (58, .slice A1523 t1489.length C1524), (59, .int .i64 (t1489.length : Int)), (60, .bool (true)), (63, undef), (64, undef), (67, undef), (68, undef), (69, undef), (70, undef), (71, .bool (true))] #[true, true, true, true, true, true, true, true, true, true, true, true, true, true, true, true, true, true, true, true, true, true, true, true, true] (by kernel_rfl) (by kernel_rfl) ?_
                        refine ED.done (by kernel_rfl) ?_
                        refine EQ.to ?_
                        refine EQ.keep [2, 7, 8, 9, 53, 54, 55, 56, 57, 58, 59, 60, 71] [(2, .slice (some ad1437) l12.length C14), (7, .pointer (some ⟨g1036, 0, none⟩)), (8, .pointer (some ⟨g1043, 0, none⟩)), (9, .int .i64 x1207), (53, .pointer (some ⟨g1036, 0, none⟩)), (54, .int .i64 t1497), (55, .pointer (some ⟨g1043, 0, none⟩)), (56, .pointer (some ⟨g1043, 0, none⟩)), (57, .pointer (some ⟨g1043, 0, none⟩)), (58, .slice A1523 t1489.length C1524), (59, .int .i64 (t1489.length : Int)), (60, .bool (true)), (71, .bool (true))] (by kernel_rfl) ?_
                        exact fun a ha => ⟨A1523, C1524, A1523, C1524, ha, (hS.re [3, 3, 3, 3] [] rfl (sub_cons 0 rfl (sub_cons 0 rfl (sub_cons 1 rfl (sub_cons 1 rfl (sub_cons 3 rfl (sub_cons 4 rfl (sub_cons 4 rfl (sub_cons 4 rfl (sub_cons 7 rfl (sub_tail (sub_tail (sub_tail (sub_tail (sub_tail (sub_tail (sub_tail (sub_tail (sub_self)))))))))))))))))))⟩
                    · obtain ⟨A1519, C1520, A1521, C1522, ha, hS⟩ := hI
                      refine EQ.at ?_ a ha
                      clear ha a
                      refine EQ.to ?_
                      refine EQ.keep [2, 7, 8, 9, 71] [(2, .slice (some ad1437) l12.length C14), (7, .pointer (some ⟨g1036, 0, none⟩)), (8, .pointer (some ⟨g1043, 0, none⟩)), (9, .int .i64 x1207), (71, .bool (true))] (by kernel_rfl) ?_
                      exact fun a ha => ⟨t1496, t1489, t1490, true, A1519, C1520, ha, (hS.re [3, 3, 3, 3] [] rfl (sub_cons 0 rfl (sub_cons 2 rfl (sub_cons 2 rfl (sub_cons 4 rfl (sub_cons 5 rfl (sub_cons 5 rfl (sub_cons 5 rfl (sub_cons 8 rfl (sub_tail (sub_tail (sub_tail (sub_tail (sub_tail (sub_tail (sub_tail (sub_tail (sub_tail (sub_self))))))))))))))))))), H⟩
                · rw [if_neg h1495] at H
                  have hS := hS.drew
                  refine EW.draw (B := B) (id := 13) (ops := Cd3.r.r.r.r.l.r.l.l.r.l.l.r.r.r.l.ops) [Ass.box 103 g1037 [.int .u64 t1450], Ass.box 89 g1036 [.slice A1453 t1451.length C1454, .func (.func 46) #[.pointer (some ⟨g1037, 0, none⟩)] #[]], Ass.own 5 (Kd.int .u8) A1453 C1454 t1451] [Ro.sl (Kd.int .u8) A1200 C1201 x1199, Ro.sl (Kd.int .u8) A1044 C1045 t1041, Ro.sl (Kd.int .u8) A9 C10 l8, Ro.sl (Kd.int .u8) A9 C10 l8, Ro.sl (Kd.int .u8) A9 C10 l8, Ro.sl (Kd.int .i64) (some ad1437) C14 l12] (by kernel_rfl) (by kernel_rfl) ?_
                  have hN : Region.noSelect Cd3.r.r.r.r.l.r.l.l.r.l.l.r.r.r.l.ops = true := (by kernel_rfl)
                  have hF : freeAll Cd3.r.r.r.r.l.r.l.l.r.l.l.r.r.r.l.ops = true := (by kernel_rfl)
                  have hC : Core B [Ass.box 103 g1037 [.int .u64 t1450], Ass.box 89 g1036 [.slice A1453 t1451.length C1454, .func (.func 46) #[.pointer (some ⟨g1037, 0, none⟩)] #[]], Ass.own 5 (Kd.int .u8) A1453 C1454 t1451] [Ro.sl (Kd.int .u8) A1200 C1201 x1199, Ro.sl (Kd.int .u8) A1044 C1045 t1041, Ro.sl (Kd.int .u8) A9 C10 l8, Ro.sl (Kd.int .u8) A9 C10 l8, Ro.sl (Kd.int .u8) A9 C10 l8, Ro.sl (Kd.int .i64) (some ad1437) C14 l12] _ := ⟨_, _, hS⟩
                  refine ED.quick hN hF hC [0, 1, 2] [2, 7, 8, 9, 10, 11, 47, 48, 49] 22 [(2, .slice (some ad1437) l12.length C14), (7, .pointer (some ⟨g1036, 0, none⟩)), (8, .pointer (some ⟨g1043, 0, none⟩)), (9, .int .i64 x1207), (10, .int .i64 x1441), (11, .int .i64 t1452), (47, .int .i64 t1452), (48, .pointer (some ⟨g1043, 0, none⟩)), (49, .int .i64 x1441)] #[true, true, true, false, false, false, false, false, false, false, false, false, false, false, false, false, false, false, false, false, false, false, false, false, false] (by kernel_rfl) (by kernel_rfl) ?_
                  have hS : St B _ (Ass.box 33 g1043 [.slice A1200 x1199.length C1201, .int .u64 x1202] :: Ass.box 103 g1037 [.int .u64 t1450] :: Ass.box 89 g1036 [.slice A1453 t1451.length C1454, .func (.func 46) #[.pointer (some ⟨g1037, 0, none⟩)] #[]] :: Ass.own 5 (Kd.int .u8) A1453 C1454 t1451 :: os) (Ro.sl (Kd.int .u8) A1200 C1201 x1199 :: Ro.sl (Kd.int .u8) A1200 C1201 x1199 :: Ro.sl (Kd.int .u8) A1044 C1045 t1041 :: Ro.sl (Kd.int .u8) A9 C10 l8 :: Ro.sl (Kd.int .u8) A9 C10 l8 :: Ro.sl (Kd.int .u8) A9 C10 l8 :: Ro.sl (Kd.int .i64) (some ad1437) C14 l12 :: rs) := hS.re [3] [] rfl (sub_cons 0 rfl sub_self)
                  refine ED.one 3 21 #[true, true, true, true, false, false, false, false, false, false, false, false, false, false, false, false, false, false, false, false, false, false, false, false, false] (by kernel_rfl) (by kernel_rfl) (by kernel_rfl) (EO.callD 17 [.pointer (some ⟨g1043, 0, none⟩), .int .i64 x1441] _ 50 (by kernel_rfl) (by kernel_rfl) (by kernel_rfl) (confidantref15_Picks_Next.calls hc1494 hS) ?_)
                  rintro v w ⟨A1527, C1528, rfl, hS⟩
                  have hC : Core B [Ass.box 103 g1037 [.int .u64 t1450], Ass.box 89 g1036 [.slice A1453 t1451.length C1454, .func (.func 46) #[.pointer (some ⟨g1037, 0, none⟩)] #[]], Ass.own 5 (Kd.int .u8) A1453 C1454 t1451] [Ro.sl (Kd.int .u8) A1200 C1201 x1199, Ro.sl (Kd.int .u8) A1044 C1045 t1041, Ro.sl (Kd.int .u8) A9 C10 l8, Ro.sl (Kd.int .u8) A9 C10 l8, Ro.sl (Kd.int .u8) A9 C10 l8, Ro.sl (Kd.int .i64) (some ad1437) C14 l12] _ := ⟨_, _, hS.re [3, 3, 3] [] rfl (sub_cons 1 rfl (sub_cons 3 rfl (sub_cons 4 rfl (sub_cons 4 rfl (sub_cons 4 rfl (sub_cons 7 rfl sub_self))))))⟩
                  refine ⟨hC, ?_⟩
                  refine ED.quick hN hF hC [4, 5] [2, 7, 8, 9, 10, 11, 52] 19 [(2, .slice (some ad1437) l12.length C14), (7, .pointer (some ⟨g1036, 0, none⟩)), (8, .pointer (some ⟨g1043, 0, none⟩)), (9, .int .i64 x1207), (10, .int .i64 x1441), (11, .int .i64 t1452), (52, .bool (!(decide (t1452 = t1491))))] #[true, true, true, true, true, true, false, false, false, false, false, false, false, false, false, false, false, false, false, false, false, false, false, false, false] (by kernel_rfl) (by kernel_rfl) ?_
                  refine ED.keep [2, 7, 8, 9, 10, 11, 52] [(2, .slice (some ad1437) l12.length C14), (7, .pointer (some ⟨g1036, 0, none⟩)), (8, .pointer (some ⟨g1043, 0, none⟩)), (9, .int .i64 x1207), (10, .int .i64 x1441), (11, .int .i64 t1452), (52, .bool (!(decide (t1452 = t1491))))] (by kernel_rfl) ?_
                  refine ED.as' [(2, .slice (some ad1437) l12.length C14), (7, .pointer (some ⟨g1036, 0, none⟩)), (8, .pointer (some ⟨g1043, 0, none⟩)), (9, .int .i64 x1207), (10, .int .i64 x1441), (11, .int .i64 t1452), (52, .bool (true))] (by simp only [dec_f h1495, Bool.not_true, Bool.not_false]) ?_
                  refine ED.quick hN hF hC [6, 7, 8, 9, 10, 11, 12, 13, 14, 15, 16, 17, 18, 19, 20, 21, 22, 23, 24] [2, 7, 8, 9, 53, 54, 55, 56, 57, 58, 59, 60, 63, 64, 67, 68, 69, 70, 71] 0 [(2, .slice (some ad1437) l12.length C14), (7, .pointer (some ⟨g1036, 0, none⟩)), (8, .pointer (some ⟨g1043, 0, none⟩)), (9, .int .i64 x1207), (53, undef), (54, undef), (55, undef), (56, undef), (57, undef), (58, undef), (59, undef), (60, undef), (63, undef), (64, undef), (67, undef), (68, undef), (69, undef), (70, undef), (71, .bool (true))] #[true, true, true, true, true, true, true, true, true, true, true, true, true, true, true, true, true, true, true, true, true, true, true, true, true] (by kernel_rfl) (by kernel_rfl) ?_
                  refine ED.done (by kernel_rfl) ?_
                  refine EQ.to ?_
                  refine EQ.keep [2, 7, 8, 9, 71] [(2, .slice (some ad1437) l12.length C14), (7, .pointer (some ⟨g1036, 0, none⟩)), (8, .pointer (some ⟨g1043, 0, none⟩)), (9, .int .i64 x1207), (71, .bool (true))] (by kernel_rfl) ?_
                  exact fun a ha => ⟨t1450, t1489, t1490, true, A1527, C1528, ha, (hS.re [0, 1, 3, 3] [] rfl (sub_cons 0 rfl (sub_cons 1 rfl (sub_cons 1 rfl (sub_cons 3 rfl (sub_cons 4 rfl (sub_cons 4 rfl (sub_cons 4 rfl (sub_cons 7 rfl (sub_tail (sub_tail (sub_tail (sub_tail (sub_tail (sub_tail (sub_tail (sub_tail (sub_self)))))))))))))))))), H⟩
              · obtain ⟨x1482, x1483, x1486, x1487, A1484, C1485, ha, hS, H⟩ := hI
                rw [hj1488] at H
                (try dsimp only at H)
                refine EW.at ?_ a ha
                clear ha a
                refine EW.condP' (o := (.tmp 71)) (x := Cd3.r.r.r.r.l.r.l.l.r.l.l.r.r.r.r.l) (y := Cd3.r.r.r.r.l.r.l.l.r.l.l.r.r.r.r.r) (x1487) (by kernel_rfl) (by kernel_rfl) (fun h1529 => ?_) (fun h1529 => ?_)
                · rw [if_pos h1529] at H
                  refine EW.seq (x := Cd3.r.r.r.r.l.r.l.l.r.l.l.r.r.r.r.l.l) (y := Cd3.r.r.r.r.l.r.l.l.r.l.l.r.r.r.r.l.r) (by kernel_rfl) ?_
                  refine EW.region (id := 14) (ops := Cd3.r.r.r.r.l.r.l.l.r.l.l.r.r.r.r.l.l.ops) (by kernel_rfl) ?_
                  refine EL.quick 1 [6] [(6, .bool (false))] (by kernel_rfl) ?_
                  refine EL.done (by kernel_rfl) ?_
                  refine EQ.code ?_
                  refine EW.ret (by kernel_rfl) ?_
                  refine EQ.ret ?_
                  refine EQ.ret ?_
                  refine EQ.ret ?_
                  refine EQ.ret ?_
                  refine EQ.ret ?_
                  obtain rfl := Option.some.inj H
                  exact EQ.leave (.bool (false)) (by kernel_rfl) ⟨_, rfl, rfl, (hS.re [] [0, 0, 0, 0] rfl (sub_tail (sub_tail (sub_tail (sub_tail (sub_tail (sub_tail (sub_self))))))))⟩
                · rw [if_neg h1529] at H
                  refine EW.skip (by kernel_rfl) ?_
                  refine EQ.pop ?_
                  refine EQ.code ?_
                  refine EW.region (id := 8) (ops := Cd3.r.r.r.r.l.r.l.l.r.r.ops) (by kernel_rfl) ?_
                  refine EL.quick 3 [2, 7, 8, 9] [(2, .slice (some ad1437) l12.length C14), (7, .pointer (some ⟨g1036, 0, none⟩)), (8, .pointer (some ⟨g1043, 0, none⟩)), (9, .int .i64 (IntKind.i64.wrap (x1207 + 1)))] (by kernel_rfl) ?_
                  refine EL.done (by kernel_rfl) ?_
                  refine EQ.to ?_
                  refine EQ.keep [2, 7, 8, 9] [(2, .slice (some ad1437) l12.length C14), (7, .pointer (some ⟨g1036, 0, none⟩)), (8, .pointer (some ⟨g1043, 0, none⟩)), (9, .int .i64 (IntKind.i64.wrap (x1207 + 1)))] (by kernel_rfl) ?_
                  exact fun a ha => ⟨n, Nat.lt_succ_self n, x1483, x1486, t1451, x1482, IntKind.i64.wrap (x1207 + 1), A1484, C1485, A1453, C1454, ha, (hS.re [1, 2, 2, 3] [] rfl (sub_cons 0 rfl (sub_cons 3 rfl (sub_cons 4 rfl (sub_cons 4 rfl (sub_cons 4 rfl (sub_cons 7 rfl (sub_tail (sub_tail (sub_tail (sub_tail (sub_tail (sub_tail (sub_tail (sub_tail (sub_self)))))))))))))))), H⟩
          · rw [if_neg h1365] at H
            refine EW.exit (id := 0) (by kernel_rfl) ?_
            refine EQ.exitCode ?_
            refine EQ.exitTo ?_
            refine EQ.exitHere ?_
            refine EQ.code ?_
            refine EW.seq (x := Cd3.r.r.r.r.r.l) (y := Cd3.r.r.r.r.r.r) (by kernel_rfl) ?_
            refine EW.region (id := 15) (ops := Cd3.r.r.r.r.r.l.ops) (by kernel_rfl) ?_
            refine EL.quick 1 [6] [(6, .bool (true))] (by kernel_rfl) ?_
            refine EL.done (by kernel_rfl) ?_
            refine EQ.code ?_
            refine EW.ret (by kernel_rfl) ?_
            obtain rfl := Option.some.inj H
            exact EQ.leave (.bool (true)) (by kernel_rfl) ⟨_, rfl, rfl, (hS.re [] [0, 0, 0, 0] rfl (sub_tail (sub_tail (sub_tail (sub_tail (sub_self))))))⟩
  · rw [if_neg h1006] at H
    refine EW.seq (x := Cd3.r.l.r.l.l) (y := Cd3.r.l.r.l.r) (by kernel_rfl) ?_
    refine EW.region (id := 2) (ops := Cd3.r.l.r.l.l.ops) (by kernel_rfl) ?_
    refine EL.quick 1 [6] [(6, .bool (false))] (by kernel_rfl) ?_
    refine EL.done (by kernel_rfl) ?_
    refine EQ.code ?_
    refine EW.ret (by kernel_rfl) ?_
    refine EQ.ret ?_
    obtain rfl := Option.some.inj H
    exact EQ.leave (.bool (false)) (by kernel_rfl) ⟨_, rfl, rfl, (hS.re [] [] rfl (sub_self))⟩

def confidantlaw17_PicksTell.Pure : Prop := ∀ (l8 : List Int) (a11 : Int) (l12 : List Int), l8.length * 1 ≤ 140737488351232 → (∀ x ∈ l8, (Lit.int .u8 x).wf = true) → (Lit.int .u64 a11).wf = true → l12.length * 8 ≤ 140737488351232 → (∀ x ∈ l12, (Lit.int .i64 x).wf = true) → ∃ K, confidantlaw17_PicksTell.f K l8 a11 l12 = some true

noncomputable def Cd4 : Code := bodyOf Try.f4

end Go.Proofs.Ytifnjijlbcacoaa.G
