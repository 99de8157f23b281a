import Derived.Test.YtifnjijlbcacoaaProg
import Derived.Test.YtifnjijlbcacoaaFwMut
namespace Go.Proofs.Ytifnjijlbcacoaa.G
open Go Go.Fw Go.RowKit Go.Proofs
set_option linter.unusedVariables false
set_option linter.unusedSimpArgs false

noncomputable def C3 : Code := bodyOf Try.f3

noncomputable def C13 : Code := bodyOf Try.f13

noncomputable def C14 : Code := bodyOf Try.f14

noncomputable def C15 : Code := bodyOf Try.f15

noncomputable def C16 : Code := bodyOf Try.f16

noncomputable def C17 : Code := bodyOf Try.f17

noncomputable def C18 : Code := bodyOf Try.f18

noncomputable def C44 : Code := bodyOf Try.f44

noncomputable def C45 : Code := bodyOf Try.f45

noncomputable def C46 : Code := bodyOf Try.f46

noncomputable def C47 : Code := bodyOf Try.f47

noncomputable def C57 : Code := bodyOf Try.f57

noncomputable def C58 : Code := bodyOf Try.f58

noncomputable def C62 : Code := bodyOf Try.f62

/-! ### slices.Clone[[]byte,byte]: function 44 -/
def slices_Clone_byte_byte.f (K : Nat) (l21 : List Int) : Option (List Int) := lt ([] : List Int) fun l52 => (if (l52.length + l21.length) * 1 ≤ 140737488355328 then (lt (l52 ++ l21) fun l54 => (some l54)) else none)
set_option maxRecDepth 100000 in
theorem slices_Clone_byte_byte.calls {K : Nat} {l21 : List Int} {A22 : Option Addr} {C23 : Nat} {x38 : List Int} {B w : World} {os : List Ass} {rs : List Ro} (H : slices_Clone_byte_byte.f K l21 = some x38) (hS : St B w (os) (Ro.sl (Kd.int .u8) A22 C23 l21 :: rs)) :
    Calls Try.prog 44 [.slice A22 l21.length C23].toArray w (fun en w' => ∃ v, en = .returned v ∧ ∃ A39 : Option Addr, ∃ C40 : Nat, v = .slice A39 x38.length C40 ∧ St B w' (Ass.own 5 (Kd.int .u8) A39 C40 x38 :: os) (Ro.sl (Kd.int .u8) A22 C23 l21 :: rs)) := by
  unfold slices_Clone_byte_byte.f at H
  refine calls_of_EW (args := [.slice A22 l21.length C23]) (c := C44) 8 Try.func44 (by kernel_rfl) (by kernel_rfl) (by kernel_rfl) ?_
  refine EW.seq (x := C44.l) (y := C44.r) (by kernel_rfl) ?_
  refine EW.region (id := 0) (ops := C44.l.ops) (by kernel_rfl) ?_
  refine EL.quick 1 [0] [(0, .slice A22 l21.length C23)] (by kernel_rfl) ?_
  refine EL.done (by kernel_rfl) ?_
  refine EQ.code ?_
  refine EW.seq (x := C44.r.l) (y := C44.r.r) (by kernel_rfl) ?_
  refine EW.seq (x := C44.r.l.l) (y := C44.r.l.r) (by kernel_rfl) ?_
  refine EW.region (id := 1) (ops := C44.r.l.l.ops) (by kernel_rfl) ?_
  refine EL.quick 1 [0, 3] [(0, .slice A22 l21.length C23), (3, .slice A22 l21.length C23)] (by kernel_rfl) ?_
  rcases A22 with _ | ad49
  · have h50 := St.rd_nil hS (Rd.ro 0 rfl)
    have H : (some ([] : List Int)) = some x38 := by simpa [lt, h50] using H
    refine EL.quick 1 [0, 4] [(0, .slice none l21.length C23), (4, .bool (true))] (by kernel_rfl) ?_
    refine EL.done (by kernel_rfl) ?_
    refine EQ.code ?_
    refine EW.condT (o := (.tmp 4)) (x := C44.r.l.r.l) (y := C44.r.l.r.r) (by kernel_rfl) (by kernel_rfl) ?_
    refine EW.seq (x := C44.r.l.r.l.l) (y := C44.r.l.r.l.r) (by kernel_rfl) ?_
    refine EW.region (id := 2) (ops := C44.r.l.r.l.l.ops) (by kernel_rfl) ?_
    refine EL.quick 1 [2] [(2, .slice none ([] : List Int).length 0)] (by kernel_rfl) ?_
    refine EL.done (by kernel_rfl) ?_
    refine EQ.code ?_
    refine EW.ret (by kernel_rfl) ?_
    refine EQ.ret ?_
    have hS := St.nilO hS 5 (Kd.int .u8)
    obtain rfl := Option.some.inj H
    exact EQ.leave (.slice none ([] : List Int).length 0) (by kernel_rfl) ⟨_, rfl, none, 0, rfl, (hS.re [0] [] rfl (sub_self))⟩
  · refine EL.quick 1 [0, 4] [(0, .slice (some ad49) l21.length C23), (4, .bool (false))] (by kernel_rfl) ?_
    refine EL.done (by kernel_rfl) ?_
    refine EQ.code ?_
    refine EW.condF (o := (.tmp 4)) (x := C44.r.l.r.l) (y := C44.r.l.r.r) (by kernel_rfl) (by kernel_rfl) ?_
    refine EW.skip (by kernel_rfl) ?_
    refine EQ.code ?_
    refine EW.seq (x := C44.r.r.l) (y := C44.r.r.r) (by kernel_rfl) ?_
    refine EW.region (id := 3) (ops := C44.r.r.l.ops) (by kernel_rfl) ?_
    obtain ⟨l52, hl52, H⟩ := lt_out H
    refine EL.of (EO.lit hS (Kd.int .u8) 5 22 0 #[] [] l52 5 (by kernel_rfl) (by kernel_rfl) (by kernel_rfl) (fun _ => (by kernel_rfl)) (by rw [hl52]; rfl) (by kernel_rfl) (fun w G hr => (by rw [hl52]; exact rfl)) ?_)
    intro g51 w hS
    refine EL.quick 1 [5, 6] [(5, .slice (some ⟨g51, 0, none⟩) l52.length 0), (6, .slice (some ad49) l21.length C23)] (by kernel_rfl) ?_
    obtain ⟨h53, H⟩ := ite_in H
    obtain ⟨l54, hl54, H⟩ := lt_out H
    refine EL.of (EO.append hS 22 22 5 1 0 (Kd.int .u8) (some ⟨g51, 0, none⟩) 0 l52 rfl (some ad49) C23 l21 (Rd.ro 0 rfl) l54 hl54 (fun A55 C56 => Ass.own 5 (Kd.int .u8) A55 C56 l54 :: os) 7 (by kernel_rfl) (by kernel_rfl) (by kernel_rfl) (by kernel_rfl) h53 (fun _ _ => rfl) ?_)
    intro A55 C56 w hS
    refine EL.quick 1 [2] [(2, .slice A55 l54.length C56)] (by kernel_rfl) ?_
    refine EL.done (by kernel_rfl) ?_
    refine EQ.code ?_
    refine EW.ret (by kernel_rfl) ?_
    obtain rfl := Option.some.inj H
    exact EQ.leave (.slice A55 l54.length C56) (by kernel_rfl) ⟨_, rfl, A55, C56, rfl, (hS.re [0] [] rfl (sub_self))⟩

/-! ### confidant/rng.New: function 45 -/
def rng_New.f (K : Nat) (a61 : Int) : Option Int := some (mx a61 1)
set_option maxRecDepth 100000 in
theorem rng_New.calls {K : Nat} {a61 : Int} {x64 : Int} {B w : World} {os : List Ass} {rs : List Ro} (H : rng_New.f K a61 = some x64) (hS : St B w (os) (rs)) :
    Calls Try.prog 45 [.int .u64 a61].toArray w (fun en w' => ∃ v, en = .returned v ∧ ∃ g63 : Nat, v = .pointer (some ⟨g63, 0, none⟩) ∧ St B w' (Ass.box 103 g63 [.int .u64 x64] :: os) (rs)) := by
  unfold rng_New.f at H
  refine calls_of_EW (args := [.int .u64 a61]) (c := C45) 7 Try.func45 (by kernel_rfl) (by kernel_rfl) (by kernel_rfl) ?_
  refine EW.seq (x := C45.l) (y := C45.r) (by kernel_rfl) ?_
  refine EW.region (id := 0) (ops := C45.l.ops) (by kernel_rfl) ?_
  refine EL.quick 1 [0] [(0, .int .u64 a61)] (by kernel_rfl) ?_
  refine EL.done (by kernel_rfl) ?_
  refine EQ.code ?_
  refine EW.seq (x := C45.r.l) (y := C45.r.r) (by kernel_rfl) ?_
  refine EW.region (id := 1) (ops := C45.r.l.ops) (by kernel_rfl) ?_
  refine EL.quick 3 [5] [(5, .agg #[.int .u64 (mx a61 1)])] (by kernel_rfl) ?_
  refine EL.of (EO.box hS 103 (.agg #[.int .u64 (mx a61 1)]) [.int .u64 (mx a61 1)] 6 (by kernel_rfl) (by kernel_rfl) (by kernel_rfl) (by first | rfl | kernel_rfl) ?_)
  intro g65 w hS
  refine EL.quick 1 [2] [(2, .pointer (some ⟨g65, 0, none⟩))] (by kernel_rfl) ?_
  refine EL.done (by kernel_rfl) ?_
  refine EQ.code ?_
  refine EW.ret (by kernel_rfl) ?_
  obtain rfl := Option.some.inj H
  exact EQ.leave (.pointer (some ⟨g65, 0, none⟩)) (by kernel_rfl) ⟨_, rfl, g65, rfl, (hS.re [0] [] rfl (sub_self))⟩

/-! ### confidant/picks.New: function 14 -/
def picks_New.f (K : Nat) (l17 : List Int) (a20 : Int) : Option (List Int × Int) := b1 (slices_Clone_byte_byte.f K l17) fun (t76 : List Int) => (b1 (rng_New.f K a20) fun (t80 : Int) => (some (t76, t80)))
set_option maxRecDepth 100000 in
theorem picks_New.calls {K : Nat} {l17 : List Int} {a20 : Int} {A18 : Option Addr} {C19 : Nat} {x72 : List Int} {x75 : Int} {B w : World} {os : List Ass} {rs : List Ro} (H : picks_New.f K l17 a20 = some (x72, x75)) (hS : St B w (os) (Ro.sl (Kd.int .u8) A18 C19 l17 :: rs)) :
    Calls Try.prog 14 [.slice A18 l17.length C19, .int .u64 a20].toArray w (fun en w' => ∃ v, en = .returned v ∧ ∃ g70 : Nat, ∃ g71 : Nat, ∃ A73 : Option Addr, ∃ C74 : Nat, v = .pointer (some ⟨g70, 0, none⟩) ∧ St B w' (Ass.box 89 g70 [.slice A73 x72.length C74, .func (.func 46) #[.pointer (some ⟨g71, 0, none⟩)] #[]] :: Ass.box 103 g71 [.int .u64 x75] :: Ass.own 5 (Kd.int .u8) A73 C74 x72 :: os) (Ro.sl (Kd.int .u8) A18 C19 l17 :: rs)) := by
  unfold picks_New.f at H
  refine calls_of_EW (args := [.slice A18 l17.length C19, .int .u64 a20]) (c := C14) 12 Try.func14 (by kernel_rfl) (by kernel_rfl) (by kernel_rfl) ?_
  refine EW.seq (x := C14.l) (y := C14.r) (by kernel_rfl) ?_
  refine EW.region (id := 0) (ops := C14.l.ops) (by kernel_rfl) ?_
  refine EL.quick 1 [0, 1] [(0, .slice A18 l17.length C19), (1, .int .u64 a20)] (by kernel_rfl) ?_
  refine EL.done (by kernel_rfl) ?_
  refine EQ.code ?_
  refine EW.seq (x := C14.r.l) (y := C14.r.r) (by kernel_rfl) ?_
  refine EW.region (id := 1) (ops := C14.r.l.ops) (by kernel_rfl) ?_
  refine EL.quick 1 [1, 5] [(1, .int .u64 a20), (5, .slice A18 l17.length C19)] (by kernel_rfl) ?_
  have hS : St B _ (os) (Ro.sl (Kd.int .u8) A18 C19 l17 :: Ro.sl (Kd.int .u8) A18 C19 l17 :: rs) := hS.re [] [] rfl (sub_cons 0 rfl sub_self)
  obtain ⟨t76, hc79, H⟩ := b1_out H
  refine EL.of (EO.callD 44 [.slice A18 l17.length C19] _ 6 (by kernel_rfl) (by kernel_rfl) (by kernel_rfl) (slices_Clone_byte_byte.calls hc79 hS) ?_)
  rintro v w ⟨A77, C78, rfl, hS⟩
  refine EL.quick 1 [6, 7] [(6, .slice A77 t76.length C78), (7, .int .u64 a20)] (by kernel_rfl) ?_
  obtain ⟨t80, hc82, H⟩ := b1_out H
  refine EL.of (EO.callD 45 [.int .u64 a20] _ 8 (by kernel_rfl) (by kernel_rfl) (by kernel_rfl) (rng_New.calls hc82 hS) ?_)
  rintro v w ⟨g81, rfl, hS⟩
  refine EL.quick 2 [10] [(10, .agg #[.slice A77 t76.length C78, .func (.func 46) #[.pointer (some ⟨g81, 0, none⟩)] #[]])] (by kernel_rfl) ?_
  refine EL.of (EO.box hS 89 (.agg #[.slice A77 t76.length C78, .func (.func 46) #[.pointer (some ⟨g81, 0, none⟩)] #[]]) [.slice A77 t76.length C78, .func (.func 46) #[.pointer (some ⟨g81, 0, none⟩)] #[]] 11 (by kernel_rfl) (by kernel_rfl) (by kernel_rfl) (by first | rfl | kernel_rfl) ?_)
  intro g83 w hS
  refine EL.quick 1 [4] [(4, .pointer (some ⟨g83, 0, none⟩))] (by kernel_rfl) ?_
  refine EL.done (by kernel_rfl) ?_
  refine EQ.code ?_
  refine EW.ret (by kernel_rfl) ?_
  simp only [Option.some.injEq, Prod.mk.injEq] at H
  obtain ⟨rfl, rfl⟩ := H
  exact EQ.leave (.pointer (some ⟨g83, 0, none⟩)) (by kernel_rfl) ⟨_, rfl, g83, g81, A77, C78, rfl, (hS.re [2, 2, 2] [] rfl (sub_tail (sub_self)))⟩

/-! ### confidant/rng.Step: function 62 -/
def rng_Step.f (K : Nat) (a120 : Int) : Option Int := lt (bX .u64 (bX .u64 a120 (sL .u64 a120 13)) (sR .u64 (bX .u64 a120 (sL .u64 a120 13)) 7)) fun y125 => (some (bX .u64 y125 (sL .u64 y125 17)))
set_option maxRecDepth 100000 in
theorem rng_Step.calls {K : Nat} {a120 : Int} {x123 : Int} {B w : World} {os : List Ass} {rs : List Ro} (H : rng_Step.f K a120 = some x123) (hS : St B w (os) (rs)) :
    Calls Try.prog 62 [.int .u64 a120].toArray w (fun en w' => ∃ v, en = .returned v ∧ v = .int .u64 x123 ∧ St B w' (os) (rs)) := by
  unfold rng_Step.f at H
  refine calls_of_EW (args := [.int .u64 a120]) (c := C62) 15 Try.func62 (by kernel_rfl) (by kernel_rfl) (by kernel_rfl) ?_
  refine EW.seq (x := C62.l) (y := C62.r) (by kernel_rfl) ?_
  refine EW.region (id := 0) (ops := C62.l.ops) (by kernel_rfl) ?_
  refine EL.quick 1 [0] [(0, .int .u64 a120)] (by kernel_rfl) ?_
  refine EL.done (by kernel_rfl) ?_
  refine EQ.code ?_
  refine EW.seq (x := C62.r.l) (y := C62.r.r) (by kernel_rfl) ?_
  refine EW.region (id := 1) (ops := C62.r.l.ops) (by kernel_rfl) ?_
  refine EL.quick 5 [0] [(0, .int .u64 (bX .u64 a120 (sL .u64 a120 13)))] (by kernel_rfl) ?_
  refine EL.done (by kernel_rfl) ?_
  refine EQ.code ?_
  refine EW.seq (x := C62.r.r.l) (y := C62.r.r.r) (by kernel_rfl) ?_
  refine EW.region (id := 2) (ops := C62.r.r.l.ops) (by kernel_rfl) ?_
  refine EL.quick 5 [0] [(0, .int .u64 (bX .u64 (bX .u64 a120 (sL .u64 a120 13)) (sR .u64 (bX .u64 a120 (sL .u64 a120 13)) 7)))] (by kernel_rfl) ?_
  obtain ⟨y125, hy125, H⟩ := lt_out H
  refine EL.keep [0] [(0, .int .u64 (bX .u64 (bX .u64 a120 (sL .u64 a120 13)) (sR .u64 (bX .u64 a120 (sL .u64 a120 13)) 7)))] (by kernel_rfl) ?_
  refine EL.as' [(0, .int .u64 y125)] (by subst hy125; rfl) ?_
  refine EL.done (by kernel_rfl) ?_
  refine EQ.code ?_
  refine EW.seq (x := C62.r.r.r.l) (y := C62.r.r.r.r) (by kernel_rfl) ?_
  refine EW.region (id := 3) (ops := C62.r.r.r.l.ops) (by kernel_rfl) ?_
  refine EL.quick 5 [2] [(2, .int .u64 (bX .u64 y125 (sL .u64 y125 17)))] (by kernel_rfl) ?_
  refine EL.done (by kernel_rfl) ?_
  refine EQ.code ?_
  refine EW.ret (by kernel_rfl) ?_
  obtain rfl := Option.some.inj H
  exact EQ.leave (.int .u64 (bX .u64 y125 (sL .u64 y125 17))) (by kernel_rfl) ⟨_, rfl, rfl, (hS.re [] [] rfl (sub_self))⟩

/-! ### (*confidant/rng.Rng).Next: function 57 -/
def rng_Rng_Next.f (K : Nat) (a119 : Int) : Option (Int × Int) := b1 (rng_Step.f K a119) fun (t134 : Int) => (some (t134, t134))
set_option maxRecDepth 100000 in
theorem rng_Rng_Next.calls {K : Nat} {a119 : Int} {g118 : Nat} {x130 : Int} {x131 : Int} {B w : World} {os : List Ass} {rs : List Ro} (H : rng_Rng_Next.f K a119 = some (x130, x131)) (hS : St B w (Ass.box 103 g118 [.int .u64 a119] :: os) (rs)) :
    Calls Try.prog 57 [.pointer (some ⟨g118, 0, none⟩)].toArray w (fun en w' => ∃ v, en = .returned v ∧ v = .int .u64 x131 ∧ St B w' (Ass.box 103 g118 [.int .u64 x130] :: os) (rs)) := by
  unfold rng_Rng_Next.f at H
  refine calls_of_EW (args := [.pointer (some ⟨g118, 0, none⟩)]) (c := C57) 15 Try.func57 (by kernel_rfl) (by kernel_rfl) (by kernel_rfl) ?_
  refine EW.seq (x := C57.l) (y := C57.r) (by kernel_rfl) ?_
  refine EW.region (id := 0) (ops := C57.l.ops) (by kernel_rfl) ?_
  refine EL.quick 1 [0] [(0, .pointer (some ⟨g118, 0, none⟩))] (by kernel_rfl) ?_
  refine EL.done (by kernel_rfl) ?_
  refine EQ.code ?_
  refine EW.seq (x := C57.r.l) (y := C57.r.r) (by kernel_rfl) ?_
  refine EW.region (id := 1) (ops := C57.r.l.ops) (by kernel_rfl) ?_
  refine EL.quick 4 [0, 3, 6] [(0, .pointer (some ⟨g118, 0, none⟩)), (3, .pointer (some ⟨g118, 0, none⟩)), (6, .pointer (some ⟨g118, 0, none⟩))] (by kernel_rfl) ?_
  refine EL.of (EO.Y (YO.loadBox hS 0 rfl 23 0 1 (.int .u64 a119) 7 (by kernel_rfl) (by kernel_rfl) (by kernel_rfl) (by kernel_rfl)) ?_)
  obtain ⟨t134, hc135, H⟩ := b1_out H
  refine EL.of (EO.callD 62 [.int .u64 a119] _ 8 (by kernel_rfl) (by kernel_rfl) (by kernel_rfl) (rng_Step.calls hc135 hS) ?_)
  rintro v w ⟨rfl, hS⟩
  refine EL.quick 2 [0, 8, 10] [(0, .pointer (some ⟨g118, 0, none⟩)), (8, .int .u64 t134), (10, .pointer (some ⟨g118, 0, none⟩))] (by kernel_rfl) ?_
  refine EL.of (EO.storeBox (os' := Ass.box 103 g118 [.int .u64 t134] :: os) hS 0 rfl 23 0 (.int .u64 t134) [.int .u64 t134] (by kernel_rfl) (by kernel_rfl) (by kernel_rfl) (by kernel_rfl) (by kernel_rfl) (by kernel_rfl) rfl rfl ?_)
  intro w hS
  refine EL.done (by kernel_rfl) ?_
  refine EQ.code ?_
  refine EW.seq (x := C57.r.r.l) (y := C57.r.r.r) (by kernel_rfl) ?_
  refine EW.region (id := 2) (ops := C57.r.r.l.ops) (by kernel_rfl) ?_
  refine EL.quick 3 [13] [(13, .pointer (some ⟨g118, 0, none⟩))] (by kernel_rfl) ?_
  refine EL.of (EO.Y (YO.loadBox hS 0 rfl 23 0 1 (.int .u64 t134) 14 (by kernel_rfl) (by kernel_rfl) (by kernel_rfl) (by kernel_rfl)) ?_)
  refine EL.quick 1 [2] [(2, .int .u64 t134)] (by kernel_rfl) ?_
  refine EL.done (by kernel_rfl) ?_
  refine EQ.code ?_
  refine EW.ret (by kernel_rfl) ?_
  simp only [Option.some.injEq, Prod.mk.injEq] at H
  obtain ⟨rfl, rfl⟩ := H
  exact EQ.leave (.int .u64 t134) (by kernel_rfl) ⟨_, rfl, rfl, (hS.re [0] [] rfl (sub_self))⟩

/-! ### (*confidant/rng.Rng).Below: function 46 -/
def rng_Rng_Below.f (K : Nat) (a113 : Int) (a114 : Int) : Option (Int × Int) := if a114 < 1 then (some (a113, 0)) else (b2 (rng_Rng_Next.f K a113) fun (t144 : Int) (t145 : Int) => (if (IntKind.u64.wrap a114) = 0 then none else (some (t144, IntKind.i64.wrap (Int.tmod t145 (IntKind.u64.wrap a114))))))
set_option maxRecDepth 100000 in
theorem rng_Rng_Below.calls {K : Nat} {a113 : Int} {a114 : Int} {g112 : Nat} {x140 : Int} {x141 : Int} {B w : World} {os : List Ass} {rs : List Ro} (H : rng_Rng_Below.f K a113 a114 = some (x140, x141)) (hS : St B w (Ass.box 103 g112 [.int .u64 a113] :: os) (rs)) :
    Calls Try.prog 46 [.pointer (some ⟨g112, 0, none⟩), .int .i64 a114].toArray w (fun en w' => ∃ v, en = .returned v ∧ v = .int .i64 x141 ∧ St B w' (Ass.box 103 g112 [.int .u64 x140] :: os) (rs)) := by
  unfold rng_Rng_Below.f at H
  refine calls_of_EW (args := [.pointer (some ⟨g112, 0, none⟩), .int .i64 a114]) (c := C46) 13 Try.func46 (by kernel_rfl) (by kernel_rfl) (by kernel_rfl) ?_
  refine EW.seq (x := C46.l) (y := C46.r) (by kernel_rfl) ?_
  refine EW.region (id := 0) (ops := C46.l.ops) (by kernel_rfl) ?_
  refine EL.quick 1 [0, 1] [(0, .pointer (some ⟨g112, 0, none⟩)), (1, .int .i64 a114)] (by kernel_rfl) ?_
  refine EL.done (by kernel_rfl) ?_
  refine EQ.code ?_
  refine EW.seq (x := C46.r.l) (y := C46.r.r) (by kernel_rfl) ?_
  refine EW.seq (x := C46.r.l.l) (y := C46.r.l.r) (by kernel_rfl) ?_
  refine EW.region (id := 1) (ops := C46.r.l.l.ops) (by kernel_rfl) ?_
  refine EL.quick 2 [0, 1, 6] [(0, .pointer (some ⟨g112, 0, none⟩)), (1, .int .i64 a114), (6, .bool (decide (a114 < 1)))] (by kernel_rfl) ?_
  refine EL.done (by kernel_rfl) ?_
  refine EQ.code ?_
  refine EW.condP (o := (.tmp 6)) (x := C46.r.l.r.l) (y := C46.r.l.r.r) (a114 < 1) (by kernel_rfl) (by kernel_rfl) (fun h143 => ?_) (fun h143 => ?_)
  · rw [if_pos h143] at H
    refine EW.seq (x := C46.r.l.r.l.l) (y := C46.r.l.r.l.r) (by kernel_rfl) ?_
    refine EW.region (id := 2) (ops := C46.r.l.r.l.l.ops) (by kernel_rfl) ?_
    refine EL.quick 1 [4] [(4, .int .i64 0)] (by kernel_rfl) ?_
    refine EL.done (by kernel_rfl) ?_
    refine EQ.code ?_
    refine EW.ret (by kernel_rfl) ?_
    refine EQ.ret ?_
    simp only [Option.some.injEq, Prod.mk.injEq] at H
    obtain ⟨rfl, rfl⟩ := H
    exact EQ.leave (.int .i64 0) (by kernel_rfl) ⟨_, rfl, rfl, (hS.re [0] [] rfl (sub_self))⟩
  · rw [if_neg h143] at H
    refine EW.skip (by kernel_rfl) ?_
    refine EQ.code ?_
    refine EW.seq (x := C46.r.r.l) (y := C46.r.r.r) (by kernel_rfl) ?_
    refine EW.region (id := 3) (ops := C46.r.r.l.ops) (by kernel_rfl) ?_
    refine EL.quick 1 [1, 7] [(1, .int .i64 a114), (7, .pointer (some ⟨g112, 0, none⟩))] (by kernel_rfl) ?_
    obtain ⟨t144, t145, hc146, H⟩ := b2_out H
    refine EL.of (EO.callD 57 [.pointer (some ⟨g112, 0, none⟩)] _ 8 (by kernel_rfl) (by kernel_rfl) (by kernel_rfl) (rng_Rng_Next.calls hc146 hS) ?_)
    rintro v w ⟨rfl, hS⟩
    refine EL.quick 2 [8, 10] [(8, .int .u64 t145), (10, .int .u64 (IntKind.u64.wrap a114))] (by kernel_rfl) ?_
    obtain ⟨h147, H⟩ := ite_out H
    refine EL.of (EO.Y (YO.div .rem .u64 t145 (IntKind.u64.wrap a114) (Int.tmod t145 (IntKind.u64.wrap a114)) 11 (by kernel_rfl) (by kernel_rfl) (by kernel_rfl) h147 (by first | exact .inl ⟨rfl, rfl⟩ | exact .inr ⟨rfl, rfl⟩)) ?_)
    refine EL.quick 2 [4] [(4, .int .i64 (IntKind.i64.wrap (Int.tmod t145 (IntKind.u64.wrap a114))))] (by kernel_rfl) ?_
    refine EL.done (by kernel_rfl) ?_
    refine EQ.code ?_
    refine EW.ret (by kernel_rfl) ?_
    simp only [Option.some.injEq, Prod.mk.injEq] at H
    obtain ⟨rfl, rfl⟩ := H
    exact EQ.leave (.int .i64 (IntKind.i64.wrap (Int.tmod t145 (IntKind.u64.wrap a114)))) (by kernel_rfl) ⟨_, rfl, rfl, (hS.re [0] [] rfl (sub_self))⟩

/-! ### (*confidant/picks.Picks).Next: function 16 -/
def picks_Picks_Next.f (K : Nat) (l102 : List Int) (a108 : Int) (a109 : Int) : Option (Int × List Int × Int) := if (l102.length : Int) = 0 then (b2 (rng_Rng_Below.f K a108 (mx a109 1)) fun (t178 : Int) (t179 : Int) => (some (t178, l102, t179))) else (if (0 : Int) < (l102.length : Int) then (if (1 : Int) ≤ (l102.length : Int) then (lt (l102.drop 1) fun l190 => (if (mx a109 1) = 0 then none else (some (a108, l190, Int.tmod (IntKind.i64.wrap (l102.getD (0 : Int).toNat 0)) (mx a109 1))))) else none) else none)
set_option maxRecDepth 100000 in
theorem picks_Picks_Next.calls {K : Nat} {l102 : List Int} {a108 : Int} {a109 : Int} {g101 : Nat} {A103 : Option Addr} {C104 : Nat} {g107 : Nat} {x168 : Int} {x169 : List Int} {x172 : Int} {B w : World} {os : List Ass} {rs : List Ro} (H : picks_Picks_Next.f K l102 a108 a109 = some (x168, x169, x172)) (hS : St B w (Ass.box 89 g101 [.slice A103 l102.length C104, .func (.func 46) #[.pointer (some ⟨g107, 0, none⟩)] #[]] :: Ass.own 5 (Kd.int .u8) A103 C104 l102 :: Ass.box 103 g107 [.int .u64 a108] :: os) (rs)) :
    Calls Try.prog 16 [.pointer (some ⟨g101, 0, none⟩), .int .i64 a109].toArray w (fun en w' => ∃ v, en = .returned v ∧ ∃ A170 : Option Addr, ∃ C171 : Nat, v = .int .i64 x172 ∧ St B w' (Ass.box 103 g107 [.int .u64 x168] :: Ass.box 89 g101 [.slice A170 x169.length C171, .func (.func 46) #[.pointer (some ⟨g107, 0, none⟩)] #[]] :: Ass.own 5 (Kd.int .u8) A170 C171 x169 :: os) (rs)) := by
  unfold picks_Picks_Next.f at H
  refine calls_of_EW (args := [.pointer (some ⟨g101, 0, none⟩), .int .i64 a109]) (c := C16) 38 Try.func16 (by kernel_rfl) (by kernel_rfl) (by kernel_rfl) ?_
  refine EW.seq (x := C16.l) (y := C16.r) (by kernel_rfl) ?_
  refine EW.region (id := 0) (ops := C16.l.ops) (by kernel_rfl) ?_
  refine EL.quick 1 [0, 1] [(0, .pointer (some ⟨g101, 0, none⟩)), (1, .int .i64 a109)] (by kernel_rfl) ?_
  refine EL.done (by kernel_rfl) ?_
  refine EQ.code ?_
  refine EW.seq (x := C16.r.l) (y := C16.r.r) (by kernel_rfl) ?_
  refine EW.region (id := 1) (ops := C16.r.l.ops) (by kernel_rfl) ?_
  refine EL.quick 3 [0, 1] [(0, .pointer (some ⟨g101, 0, none⟩)), (1, .int .i64 (mx a109 1))] (by kernel_rfl) ?_
  refine EL.done (by kernel_rfl) ?_
  refine EQ.code ?_
  refine EW.seq (x := C16.r.r.l) (y := C16.r.r.r) (by kernel_rfl) ?_
  refine EW.seq (x := C16.r.r.l.l) (y := C16.r.r.l.r) (by kernel_rfl) ?_
  refine EW.region (id := 2) (ops := C16.r.r.l.l.ops) (by kernel_rfl) ?_
  refine EL.quick 3 [0, 1, 10] [(0, .pointer (some ⟨g101, 0, none⟩)), (1, .int .i64 (mx a109 1)), (10, .pointer (some ⟨g101, 0, none⟩))] (by kernel_rfl) ?_
  refine EL.of (EO.Y (YO.loadBox hS 0 rfl 22 0 1 (.slice A103 l102.length C104) 11 (by kernel_rfl) (by kernel_rfl) (by kernel_rfl) (by kernel_rfl)) ?_)
  refine EL.quick 2 [0, 1, 13] [(0, .pointer (some ⟨g101, 0, none⟩)), (1, .int .i64 (mx a109 1)), (13, .bool (decide ((l102.length : Int) = 0)))] (by kernel_rfl) ?_
  refine EL.done (by kernel_rfl) ?_
  refine EQ.code ?_
  refine EW.condP (o := (.tmp 13)) (x := C16.r.r.l.r.l) (y := C16.r.r.l.r.r) ((l102.length : Int) = 0) (by kernel_rfl) (by kernel_rfl) (fun h177 => ?_) (fun h177 => ?_)
  · rw [if_pos h177] at H
    refine EW.seq (x := C16.r.r.l.r.l.l) (y := C16.r.r.l.r.l.r) (by kernel_rfl) ?_
    refine EW.region (id := 3) (ops := C16.r.r.l.r.l.l.ops) (by kernel_rfl) ?_
    refine EL.quick 3 [1, 16] [(1, .int .i64 (mx a109 1)), (16, .pointer (some ⟨g101, 1, none⟩))] (by kernel_rfl) ?_
    refine EL.of (EO.Y (YO.loadBox hS 0 rfl 30 1 1 (.func (.func 46) #[.pointer (some ⟨g107, 0, none⟩)] #[]) 17 (by kernel_rfl) (by kernel_rfl) (by kernel_rfl) (by kernel_rfl)) ?_)
    refine EL.quick 1 [17, 18] [(17, .func (.func 46) #[.pointer (some ⟨g107, 0, none⟩)] #[]), (18, .int .i64 (mx a109 1))] (by kernel_rfl) ?_
    have hS : St B _ (Ass.box 103 g107 [.int .u64 a108] :: Ass.box 89 g101 [.slice A103 l102.length C104, .func (.func 46) #[.pointer (some ⟨g107, 0, none⟩)] #[]] :: Ass.own 5 (Kd.int .u8) A103 C104 l102 :: os) (rs) := hS.re [2] [] rfl sub_self
    obtain ⟨t178, t179, hc180, H⟩ := b2_out H
    refine EL.of (EO.callD 46 [.pointer (some ⟨g107, 0, none⟩), .int .i64 (mx a109 1)] _ 19 (by kernel_rfl) (by kernel_rfl) (by kernel_rfl) (rng_Rng_Below.calls hc180 hS) ?_)
    rintro v w ⟨rfl, hS⟩
    refine EL.quick 1 [4] [(4, .int .i64 t179)] (by kernel_rfl) ?_
    refine EL.done (by kernel_rfl) ?_
    refine EQ.code ?_
    refine EW.ret (by kernel_rfl) ?_
    refine EQ.ret ?_
    simp only [Option.some.injEq, Prod.mk.injEq] at H
    obtain ⟨rfl, rfl, rfl⟩ := H
    exact EQ.leave (.int .i64 t179) (by kernel_rfl) ⟨_, rfl, A103, C104, rfl, (hS.re [2, 2, 2] [] rfl (sub_self))⟩
  · rw [if_neg h177] at H
    refine EW.skip (by kernel_rfl) ?_
    refine EQ.code ?_
    refine EW.seq (x := C16.r.r.r.l) (y := C16.r.r.r.r) (by kernel_rfl) ?_
    refine EW.region (id := 4) (ops := C16.r.r.r.l.ops) (by kernel_rfl) ?_
    refine EL.quick 3 [0, 1, 22] [(0, .pointer (some ⟨g101, 0, none⟩)), (1, .int .i64 (mx a109 1)), (22, .pointer (some ⟨g101, 0, none⟩))] (by kernel_rfl) ?_
    refine EL.of (EO.Y (YO.loadBox hS 0 rfl 22 0 1 (.slice A103 l102.length C104) 23 (by kernel_rfl) (by kernel_rfl) (by kernel_rfl) (by kernel_rfl)) ?_)
    obtain ⟨h183, H⟩ := ite_in H
    obtain ⟨ad184, rfl⟩ := St.rd_some hS (Rd.own 1 5 rfl) (by decide) h183
    refine EL.of (EO.Y (YO.idx 22 1 ad184 l102.length C104 .i64 0 24 (by kernel_rfl) (by kernel_rfl) (by kernel_rfl) (by kernel_rfl) (by decide) h183) ?_)
    refine EL.of (EO.Y (YO.loadEl hS (Kd.int .u8) ad184 C104 l102 (Rd.own 1 5 rfl) 0 (encI .u8) encI_of 0 (by decide) h183 5 1 0 1 rfl (.int .u8 (l102.getD (0 : Int).toNat 0)) 25 (by kernel_rfl) (by kernel_rfl) (by kernel_rfl) (by kernel_rfl)) ?_)
    refine EL.quick 2 [0, 1, 5] [(0, .pointer (some ⟨g101, 0, none⟩)), (1, .int .i64 (mx a109 1)), (5, .int .i64 (IntKind.i64.wrap (l102.getD (0 : Int).toNat 0)))] (by kernel_rfl) ?_
    refine EL.done (by kernel_rfl) ?_
    refine EQ.code ?_
    refine EW.seq (x := C16.r.r.r.r.l) (y := C16.r.r.r.r.r) (by kernel_rfl) ?_
    refine EW.region (id := 5) (ops := C16.r.r.r.r.l.ops) (by kernel_rfl) ?_
    refine EL.quick 4 [1, 5, 27, 30] [(1, .int .i64 (mx a109 1)), (5, .int .i64 (IntKind.i64.wrap (l102.getD (0 : Int).toNat 0))), (27, .pointer (some ⟨g101, 0, none⟩)), (30, .pointer (some ⟨g101, 0, none⟩))] (by kernel_rfl) ?_
    refine EL.of (EO.Y (YO.loadBox hS 0 rfl 22 0 1 (.slice (some ad184) l102.length C104) 31 (by kernel_rfl) (by kernel_rfl) (by kernel_rfl) (by kernel_rfl)) ?_)
    obtain ⟨h189, H⟩ := ite_in H
    obtain ⟨l190, hl190, H⟩ := lt_out H
    refine EL.of (EO.sliceOwn hS (Kd.int .u8) 5 (some ad184) C104 l102 1 rfl (some (.int .i64 1)) none none 1 l102.length C104 l190 (by rw [hl190]; exact (slice_lo _ _)) (fun A191 C192 => Ass.box 89 g101 [.slice (some ad184) l102.length C104, .func (.func 46) #[.pointer (some ⟨g107, 0, none⟩)] #[]] :: Ass.own 5 (Kd.int .u8) A191 C192 l190 :: Ass.box 103 g107 [.int .u64 a108] :: os) 22 32 (by kernel_rfl) (by kernel_rfl) (by kernel_rfl) (by kernel_rfl) (rfl) (rfl) ⟨rfl, fun h => by first | rfl | cases h⟩ (by omega) (by omega) (.inl rfl) (fun _ _ => rfl) ?_)
    intro A191 C192 hS
    refine EL.quick 2 [1, 5, 32, 34] [(1, .int .i64 (mx a109 1)), (5, .int .i64 (IntKind.i64.wrap (l102.getD (0 : Int).toNat 0))), (32, .slice A191 l190.length C192), (34, .pointer (some ⟨g101, 0, none⟩))] (by kernel_rfl) ?_
    refine EL.of (EO.storeBox (os' := Ass.box 89 g101 [.slice A191 l190.length C192, .func (.func 46) #[.pointer (some ⟨g107, 0, none⟩)] #[]] :: Ass.own 5 (Kd.int .u8) A191 C192 l190 :: Ass.box 103 g107 [.int .u64 a108] :: os) hS 0 rfl 22 0 (.slice A191 l190.length C192) [.slice A191 l190.length C192, .func (.func 46) #[.pointer (some ⟨g107, 0, none⟩)] #[]] (by kernel_rfl) (by kernel_rfl) (by kernel_rfl) (by kernel_rfl) (by kernel_rfl) (by kernel_rfl) rfl rfl ?_)
    intro w hS
    refine EL.done (by kernel_rfl) ?_
    refine EQ.code ?_
    refine EW.seq (x := C16.r.r.r.r.r.l) (y := C16.r.r.r.r.r.r) (by kernel_rfl) ?_
    refine EW.region (id := 6) (ops := C16.r.r.r.r.r.l.ops) (by kernel_rfl) ?_
    refine EL.quick 2 [35, 36] [(35, .int .i64 (IntKind.i64.wrap (l102.getD (0 : Int).toNat 0))), (36, .int .i64 (mx a109 1))] (by kernel_rfl) ?_
    obtain ⟨h193, H⟩ := ite_out H
    refine EL.of (EO.Y (YO.div .rem .i64 (IntKind.i64.wrap (l102.getD (0 : Int).toNat 0)) (mx a109 1) (Int.tmod (IntKind.i64.wrap (l102.getD (0 : Int).toNat 0)) (mx a109 1)) 37 (by kernel_rfl) (by kernel_rfl) (by kernel_rfl) h193 (by first | exact .inl ⟨rfl, rfl⟩ | exact .inr ⟨rfl, rfl⟩)) ?_)
    refine EL.quick 1 [4] [(4, .int .i64 (Int.tmod (IntKind.i64.wrap (l102.getD (0 : Int).toNat 0)) (mx a109 1)))] (by kernel_rfl) ?_
    refine EL.done (by kernel_rfl) ?_
    refine EQ.code ?_
    refine EW.ret (by kernel_rfl) ?_
    simp only [Option.some.injEq, Prod.mk.injEq] at H
    obtain ⟨rfl, rfl, rfl⟩ := H
    exact EQ.leave (.int .i64 (Int.tmod (IntKind.i64.wrap (l102.getD (0 : Int).toNat 0)) (mx a109 1))) (by kernel_rfl) ⟨_, rfl, A191, C192, rfl, (hS.re [1, 1, 2] [] rfl (sub_self))⟩

/-! ### (*confidant/picks.Picks).Left: function 18 -/
def picks_Picks_Left.f (K : Nat) (l220 : List Int) (a226 : Int) : Option (Int × Int) := some (a226, (l220.length : Int))
set_option maxRecDepth 100000 in
theorem picks_Picks_Left.calls {K : Nat} {l220 : List Int} {a226 : Int} {g219 : Nat} {A221 : Option Addr} {C222 : Nat} {g225 : Nat} {x227 : Int} {x228 : Int} {B w : World} {os : List Ass} {rs : List Ro} (H : picks_Picks_Left.f K l220 a226 = some (x227, x228)) (hS : St B w (Ass.box 89 g219 [.slice A221 l220.length C222, .func (.func 46) #[.pointer (some ⟨g225, 0, none⟩)] #[]] :: Ass.own 5 (Kd.int .u8) A221 C222 l220 :: Ass.box 103 g225 [.int .u64 a226] :: os) (rs)) :
    Calls Try.prog 18 [.pointer (some ⟨g219, 0, none⟩)].toArray w (fun en w' => ∃ v, en = .returned v ∧ v = .int .i64 x228 ∧ St B w' (Ass.box 89 g219 [.slice A221 l220.length C222, .func (.func 46) #[.pointer (some ⟨g225, 0, none⟩)] #[]] :: Ass.own 5 (Kd.int .u8) A221 C222 l220 :: Ass.box 103 g225 [.int .u64 x227] :: os) (rs)) := by
  unfold picks_Picks_Left.f at H
  refine calls_of_EW (args := [.pointer (some ⟨g219, 0, none⟩)]) (c := C18) 8 Try.func18 (by kernel_rfl) (by kernel_rfl) (by kernel_rfl) ?_
  refine EW.seq (x := C18.l) (y := C18.r) (by kernel_rfl) ?_
  refine EW.region (id := 0) (ops := C18.l.ops) (by kernel_rfl) ?_
  refine EL.quick 1 [0] [(0, .pointer (some ⟨g219, 0, none⟩))] (by kernel_rfl) ?_
  refine EL.done (by kernel_rfl) ?_
  refine EQ.code ?_
  refine EW.seq (x := C18.r.l) (y := C18.r.r) (by kernel_rfl) ?_
  refine EW.region (id := 1) (ops := C18.r.l.ops) (by kernel_rfl) ?_
  refine EL.quick 3 [5] [(5, .pointer (some ⟨g219, 0, none⟩))] (by kernel_rfl) ?_
  refine EL.of (EO.Y (YO.loadBox hS 0 rfl 22 0 1 (.slice A221 l220.length C222) 6 (by kernel_rfl) (by kernel_rfl) (by kernel_rfl) (by kernel_rfl)) ?_)
  refine EL.quick 2 [2] [(2, .int .i64 (l220.length : Int))] (by kernel_rfl) ?_
  refine EL.done (by kernel_rfl) ?_
  refine EQ.code ?_
  refine EW.ret (by kernel_rfl) ?_
  simp only [Option.some.injEq, Prod.mk.injEq] at H
  obtain ⟨rfl, rfl⟩ := H
  exact EQ.leave (.int .i64 (l220.length : Int)) (by kernel_rfl) ⟨_, rfl, rfl, (hS.re [2, 2, 2] [] rfl (sub_self))⟩

/-! ### confidant/confidantref15.NewPicks: function 15 -/
def confidantref15_NewPicks.f (K : Nat) (l247 : List Int) (a250 : Int) : Option (List Int × Int) := lt (fun (x264 : Int) => (some (l247, x264))) fun j265 => (if a250 = 0 then (j265 1) else (j265 a250))
set_option maxRecDepth 100000 in
theorem confidantref15_NewPicks.calls {K : Nat} {l247 : List Int} {a250 : Int} {A248 : Option Addr} {C249 : Nat} {x258 : List Int} {x261 : Int} {B w : World} {os : List Ass} {rs : List Ro} (H : confidantref15_NewPicks.f K l247 a250 = some (x258, x261)) (hS : St B w (os) (Ro.sl (Kd.int .u8) A248 C249 l247 :: rs)) :
    Calls Try.prog 15 [.slice A248 l247.length C249, .int .u64 a250].toArray w (fun en w' => ∃ v, en = .returned v ∧ ∃ g257 : Nat, ∃ A259 : Option Addr, ∃ C260 : Nat, v = .pointer (some ⟨g257, 0, none⟩) ∧ St B w' (Ass.box 33 g257 [.slice A259 x258.length C260, .int .u64 x261] :: os) (Ro.sl (Kd.int .u8) A259 C260 x258 :: Ro.sl (Kd.int .u8) A248 C249 l247 :: rs)) := by
  unfold confidantref15_NewPicks.f at H
  refine calls_of_EW (args := [.slice A248 l247.length C249, .int .u64 a250]) (c := C15) 11 Try.func15 (by kernel_rfl) (by kernel_rfl) (by kernel_rfl) ?_
  refine EW.seq (x := C15.l) (y := C15.r) (by kernel_rfl) ?_
  refine EW.region (id := 0) (ops := C15.l.ops) (by kernel_rfl) ?_
  refine EL.quick 1 [0, 1] [(0, .slice A248 l247.length C249), (1, .int .u64 a250)] (by kernel_rfl) ?_
  refine EL.done (by kernel_rfl) ?_
  refine EQ.code ?_
  obtain ⟨j265, hj265, H⟩ := lt_out H
  refine EW.cut (x := C15.r.l) (y := C15.r.r) (fun a w => ∃ x264 : Int, Sat 11 [(0, .slice A248 l247.length C249), (1, .int .u64 x264)] a ∧ St B w (os) (Ro.sl (Kd.int .u8) A248 C249 l247 :: rs) ∧ j265 x264 = some (x258, x261)) (by kernel_rfl) ?_ (fun a w hI => ?_)
  · refine EW.seq (x := C15.r.l.l) (y := C15.r.l.r) (by kernel_rfl) ?_
    refine EW.region (id := 1) (ops := C15.r.l.l.ops) (by kernel_rfl) ?_
    refine EL.quick 2 [0, 1, 6] [(0, .slice A248 l247.length C249), (1, .int .u64 a250), (6, .bool (decide (a250 = 0)))] (by kernel_rfl) ?_
    refine EL.done (by kernel_rfl) ?_
    refine EQ.code ?_
    refine EW.condP (o := (.tmp 6)) (x := C15.r.l.r.l) (y := C15.r.l.r.r) (a250 = 0) (by kernel_rfl) (by kernel_rfl) (fun h266 => ?_) (fun h266 => ?_)
    · rw [if_pos h266] at H
      refine EW.region (id := 2) (ops := C15.r.l.r.l.ops) (by kernel_rfl) ?_
      refine EL.quick 1 [0, 1] [(0, .slice A248 l247.length C249), (1, .int .u64 1)] (by kernel_rfl) ?_
      refine EL.done (by kernel_rfl) ?_
      refine EQ.to ?_
      refine EQ.keep [0, 1] [(0, .slice A248 l247.length C249), (1, .int .u64 1)] (by kernel_rfl) ?_
      exact fun a ha => ⟨1, ha, (hS.re [] [] rfl (sub_cons 0 rfl (sub_tail (sub_self)))), H⟩
    · rw [if_neg h266] at H
      refine EW.skip (by kernel_rfl) ?_
      refine EQ.to ?_
      refine EQ.keep [0, 1] [(0, .slice A248 l247.length C249), (1, .int .u64 a250)] (by kernel_rfl) ?_
      exact fun a ha => ⟨a250, ha, (hS.re [] [] rfl (sub_cons 0 rfl (sub_tail (sub_self)))), H⟩
  · obtain ⟨x264, ha, hS, H⟩ := hI
    rw [hj265] at H
    (try dsimp only at H)
    refine EW.at ?_ a ha
    clear ha a
    refine EW.seq (x := C15.r.r.l) (y := C15.r.r.r) (by kernel_rfl) ?_
    refine EW.region (id := 3) (ops := C15.r.r.l.ops) (by kernel_rfl) ?_
    refine EL.quick 3 [9] [(9, .agg #[.slice A248 l247.length C249, .int .u64 x264])] (by kernel_rfl) ?_
    refine EL.of (EO.box hS 33 (.agg #[.slice A248 l247.length C249, .int .u64 x264]) [.slice A248 l247.length C249, .int .u64 x264] 10 (by kernel_rfl) (by kernel_rfl) (by kernel_rfl) (by first | rfl | kernel_rfl) ?_)
    intro g267 w hS
    refine EL.quick 1 [4] [(4, .pointer (some ⟨g267, 0, none⟩))] (by kernel_rfl) ?_
    refine EL.done (by kernel_rfl) ?_
    refine EQ.code ?_
    refine EW.ret (by kernel_rfl) ?_
    simp only [Option.some.injEq, Prod.mk.injEq] at H
    obtain ⟨rfl, rfl⟩ := H
    exact EQ.leave (.pointer (some ⟨g267, 0, none⟩)) (by kernel_rfl) ⟨_, rfl, g267, A248, C249, rfl, (hS.re [0] [] rfl (sub_cons 0 rfl (sub_self)))⟩

/-! ### confidant/confidantref15.Step: function 58 -/
def confidantref15_Step.f (K : Nat) (a300 : Int) : Option Int := lt (bX .u64 (bX .u64 a300 (sL .u64 a300 13)) (sR .u64 (bX .u64 a300 (sL .u64 a300 13)) 7)) fun y305 => (some (bX .u64 y305 (sL .u64 y305 17)))
set_option maxRecDepth 100000 in
theorem confidantref15_Step.calls {K : Nat} {a300 : Int} {x303 : Int} {B w : World} {os : List Ass} {rs : List Ro} (H : confidantref15_Step.f K a300 = some x303) (hS : St B w (os) (rs)) :
    Calls Try.prog 58 [.int .u64 a300].toArray w (fun en w' => ∃ v, en = .returned v ∧ v = .int .u64 x303 ∧ St B w' (os) (rs)) := by
  unfold confidantref15_Step.f at H
  refine calls_of_EW (args := [.int .u64 a300]) (c := C58) 16 Try.func58 (by kernel_rfl) (by kernel_rfl) (by kernel_rfl) ?_
  refine EW.seq (x := C58.l) (y := C58.r) (by kernel_rfl) ?_
  refine EW.region (id := 0) (ops := C58.l.ops) (by kernel_rfl) ?_
  refine EL.quick 1 [0] [(0, .int .u64 a300)] (by kernel_rfl) ?_
  refine EL.done (by kernel_rfl) ?_
  refine EQ.code ?_
  refine EW.seq (x := C58.r.l) (y := C58.r.r) (by kernel_rfl) ?_
  refine EW.region (id := 1) (ops := C58.r.l.ops) (by kernel_rfl) ?_
  refine EL.quick 5 [0] [(0, .int .u64 (bX .u64 a300 (sL .u64 a300 13)))] (by kernel_rfl) ?_
  refine EL.done (by kernel_rfl) ?_
  refine EQ.code ?_
  refine EW.seq (x := C58.r.r.l) (y := C58.r.r.r) (by kernel_rfl) ?_
  refine EW.region (id := 2) (ops := C58.r.r.l.ops) (by kernel_rfl) ?_
  refine EL.quick 5 [0] [(0, .int .u64 (bX .u64 (bX .u64 a300 (sL .u64 a300 13)) (sR .u64 (bX .u64 a300 (sL .u64 a300 13)) 7)))] (by kernel_rfl) ?_
  obtain ⟨y305, hy305, H⟩ := lt_out H
  refine EL.keep [0] [(0, .int .u64 (bX .u64 (bX .u64 a300 (sL .u64 a300 13)) (sR .u64 (bX .u64 a300 (sL .u64 a300 13)) 7)))] (by kernel_rfl) ?_
  refine EL.as' [(0, .int .u64 y305)] (by subst hy305; rfl) ?_
  refine EL.done (by kernel_rfl) ?_
  refine EQ.code ?_
  refine EW.seq (x := C58.r.r.r.l) (y := C58.r.r.r.r) (by kernel_rfl) ?_
  refine EW.region (id := 3) (ops := C58.r.r.r.l.ops) (by kernel_rfl) ?_
  refine EL.quick 5 [0] [(0, .int .u64 (bX .u64 y305 (sL .u64 y305 17)))] (by kernel_rfl) ?_
  refine EL.done (by kernel_rfl) ?_
  refine EQ.code ?_
  refine EW.seq (x := C58.r.r.r.r.l) (y := C58.r.r.r.r.r) (by kernel_rfl) ?_
  refine EW.region (id := 4) (ops := C58.r.r.r.r.l.ops) (by kernel_rfl) ?_
  refine EL.quick 2 [2] [(2, .int .u64 (bX .u64 y305 (sL .u64 y305 17)))] (by kernel_rfl) ?_
  refine EL.done (by kernel_rfl) ?_
  refine EQ.code ?_
  refine EW.ret (by kernel_rfl) ?_
  obtain rfl := Option.some.inj H
  exact EQ.leave (.int .u64 (bX .u64 y305 (sL .u64 y305 17))) (by kernel_rfl) ⟨_, rfl, rfl, (hS.re [] [] rfl (sub_self))⟩

/-! ### (*confidant/confidantref15.Picks).Below: function 47 -/
def confidantref15_Picks_Below.f (K : Nat) (l293 : List Int) (a296 : Int) (a297 : Int) : Option (List Int × Int × Int) := if a297 < 1 then (some (l293, a296, 0)) else (b1 (confidantref15_Step.f K a296) fun (t320 : Int) => (if (IntKind.u64.wrap a297) = 0 then none else (some (l293, t320, IntKind.i64.wrap (Int.tmod t320 (IntKind.u64.wrap a297))))))
set_option maxRecDepth 100000 in
theorem confidantref15_Picks_Below.calls {K : Nat} {l293 : List Int} {a296 : Int} {a297 : Int} {g292 : Nat} {A294 : Option Addr} {C295 : Nat} {x311 : List Int} {x314 : Int} {x315 : Int} {B w : World} {os : List Ass} {rs : List Ro} (H : confidantref15_Picks_Below.f K l293 a296 a297 = some (x311, x314, x315)) (hS : St B w (Ass.box 33 g292 [.slice A294 l293.length C295, .int .u64 a296] :: os) (Ro.sl (Kd.int .u8) A294 C295 l293 :: rs)) :
    Calls Try.prog 47 [.pointer (some ⟨g292, 0, none⟩), .int .i64 a297].toArray w (fun en w' => ∃ v, en = .returned v ∧ ∃ A312 : Option Addr, ∃ C313 : Nat, v = .int .i64 x315 ∧ St B w' (Ass.box 33 g292 [.slice A312 x311.length C313, .int .u64 x314] :: os) (Ro.sl (Kd.int .u8) A312 C313 x311 :: Ro.sl (Kd.int .u8) A294 C295 l293 :: rs)) := by
  unfold confidantref15_Picks_Below.f at H
  refine calls_of_EW (args := [.pointer (some ⟨g292, 0, none⟩), .int .i64 a297]) (c := C47) 23 Try.func47 (by kernel_rfl) (by kernel_rfl) (by kernel_rfl) ?_
  refine EW.seq (x := C47.l) (y := C47.r) (by kernel_rfl) ?_
  refine EW.region (id := 0) (ops := C47.l.ops) (by kernel_rfl) ?_
  refine EL.quick 1 [0, 1] [(0, .pointer (some ⟨g292, 0, none⟩)), (1, .int .i64 a297)] (by kernel_rfl) ?_
  refine EL.done (by kernel_rfl) ?_
  refine EQ.code ?_
  refine EW.seq (x := C47.r.l) (y := C47.r.r) (by kernel_rfl) ?_
  refine EW.seq (x := C47.r.l.l) (y := C47.r.l.r) (by kernel_rfl) ?_
  refine EW.region (id := 1) (ops := C47.r.l.l.ops) (by kernel_rfl) ?_
  refine EL.quick 2 [0, 1, 6] [(0, .pointer (some ⟨g292, 0, none⟩)), (1, .int .i64 a297), (6, .bool (decide (a297 < 1)))] (by kernel_rfl) ?_
  refine EL.done (by kernel_rfl) ?_
  refine EQ.code ?_
  refine EW.condP (o := (.tmp 6)) (x := C47.r.l.r.l) (y := C47.r.l.r.r) (a297 < 1) (by kernel_rfl) (by kernel_rfl) (fun h317 => ?_) (fun h317 => ?_)
  · rw [if_pos h317] at H
    refine EW.seq (x := C47.r.l.r.l.l) (y := C47.r.l.r.l.r) (by kernel_rfl) ?_
    refine EW.region (id := 2) (ops := C47.r.l.r.l.l.ops) (by kernel_rfl) ?_
    refine EL.quick 1 [4] [(4, .int .i64 0)] (by kernel_rfl) ?_
    refine EL.done (by kernel_rfl) ?_
    refine EQ.code ?_
    refine EW.ret (by kernel_rfl) ?_
    refine EQ.ret ?_
    simp only [Option.some.injEq, Prod.mk.injEq] at H
    obtain ⟨rfl, rfl, rfl⟩ := H
    exact EQ.leave (.int .i64 0) (by kernel_rfl) ⟨_, rfl, A294, C295, rfl, (hS.re [0] [] rfl (sub_cons 0 rfl (sub_self)))⟩
  · rw [if_neg h317] at H
    refine EW.skip (by kernel_rfl) ?_
    refine EQ.code ?_
    refine EW.seq (x := C47.r.r.l) (y := C47.r.r.r) (by kernel_rfl) ?_
    refine EW.region (id := 3) (ops := C47.r.r.l.ops) (by kernel_rfl) ?_
    refine EL.quick 4 [0, 1, 7, 10] [(0, .pointer (some ⟨g292, 0, none⟩)), (1, .int .i64 a297), (7, .pointer (some ⟨g292, 0, none⟩)), (10, .pointer (some ⟨g292, 1, none⟩))] (by kernel_rfl) ?_
    refine EL.of (EO.Y (YO.loadBox hS 0 rfl 23 1 1 (.int .u64 a296) 11 (by kernel_rfl) (by kernel_rfl) (by kernel_rfl) (by kernel_rfl)) ?_)
    obtain ⟨t320, hc321, H⟩ := b1_out H
    refine EL.of (EO.callD 58 [.int .u64 a296] _ 12 (by kernel_rfl) (by kernel_rfl) (by kernel_rfl) (confidantref15_Step.calls hc321 hS) ?_)
    rintro v w ⟨rfl, hS⟩
    refine EL.quick 2 [0, 1, 12, 14] [(0, .pointer (some ⟨g292, 0, none⟩)), (1, .int .i64 a297), (12, .int .u64 t320), (14, .pointer (some ⟨g292, 1, none⟩))] (by kernel_rfl) ?_
    refine EL.of (EO.storeBox (os' := Ass.box 33 g292 [.slice A294 l293.length C295, .int .u64 t320] :: os) hS 0 rfl 23 1 (.int .u64 t320) [.slice A294 l293.length C295, .int .u64 t320] (by kernel_rfl) (by kernel_rfl) (by kernel_rfl) (by kernel_rfl) (by kernel_rfl) (by kernel_rfl) rfl rfl ?_)
    intro w hS
    refine EL.done (by kernel_rfl) ?_
    refine EQ.code ?_
    refine EW.seq (x := C47.r.r.r.l) (y := C47.r.r.r.r) (by kernel_rfl) ?_
    refine EW.region (id := 4) (ops := C47.r.r.r.l.ops) (by kernel_rfl) ?_
    refine EL.quick 3 [1, 17] [(1, .int .i64 a297), (17, .pointer (some ⟨g292, 1, none⟩))] (by kernel_rfl) ?_
    refine EL.of (EO.Y (YO.loadBox hS 0 rfl 23 1 1 (.int .u64 t320) 18 (by kernel_rfl) (by kernel_rfl) (by kernel_rfl) (by kernel_rfl)) ?_)
    refine EL.quick 2 [18, 20] [(18, .int .u64 t320), (20, .int .u64 (IntKind.u64.wrap a297))] (by kernel_rfl) ?_
    obtain ⟨h322, H⟩ := ite_out H
    refine EL.of (EO.Y (YO.div .rem .u64 t320 (IntKind.u64.wrap a297) (Int.tmod t320 (IntKind.u64.wrap a297)) 21 (by kernel_rfl) (by kernel_rfl) (by kernel_rfl) h322 (by first | exact .inl ⟨rfl, rfl⟩ | exact .inr ⟨rfl, rfl⟩)) ?_)
    refine EL.quick 2 [4] [(4, .int .i64 (IntKind.i64.wrap (Int.tmod t320 (IntKind.u64.wrap a297))))] (by kernel_rfl) ?_
    refine EL.done (by kernel_rfl) ?_
    refine EQ.code ?_
    refine EW.ret (by kernel_rfl) ?_
    simp only [Option.some.injEq, Prod.mk.injEq] at H
    obtain ⟨rfl, rfl, rfl⟩ := H
    exact EQ.leave (.int .i64 (IntKind.i64.wrap (Int.tmod t320 (IntKind.u64.wrap a297)))) (by kernel_rfl) ⟨_, rfl, A294, C295, rfl, (hS.re [0] [] rfl (sub_cons 0 rfl (sub_self)))⟩

/-! ### (*confidant/confidantref15.Picks).Next: function 17 -/
def confidantref15_Picks_Next.f (K : Nat) (l285 : List Int) (a288 : Int) (a289 : Int) : Option (List Int × Int × Int) := if (l285.length : Int) = 0 then (b3 (confidantref15_Picks_Below.f K l285 a288 (mx a289 1)) fun (t359 : List Int) (t360 : Int) (t361 : Int) => (some (t359, t360, t361))) else (if (0 : Int) < (l285.length : Int) then (if (mx a289 1) = 0 then none else (if (1 : Int) ≤ (l285.length : Int) then (lt (l285.drop 1) fun l372 => (some (l372, a288, Int.tmod (IntKind.i64.wrap (l285.getD (0 : Int).toNat 0)) (mx a289 1)))) else none)) else none)
set_option maxRecDepth 100000 in
theorem confidantref15_Picks_Next.calls {K : Nat} {l285 : List Int} {a288 : Int} {a289 : Int} {g284 : Nat} {A286 : Option Addr} {C287 : Nat} {x346 : List Int} {x349 : Int} {x350 : Int} {B w : World} {os : List Ass} {rs : List Ro} (H : confidantref15_Picks_Next.f K l285 a288 a289 = some (x346, x349, x350)) (hS : St B w (Ass.box 33 g284 [.slice A286 l285.length C287, .int .u64 a288] :: os) (Ro.sl (Kd.int .u8) A286 C287 l285 :: rs)) :
    Calls Try.prog 17 [.pointer (some ⟨g284, 0, none⟩), .int .i64 a289].toArray w (fun en w' => ∃ v, en = .returned v ∧ ∃ A347 : Option Addr, ∃ C348 : Nat, v = .int .i64 x350 ∧ St B w' (Ass.box 33 g284 [.slice A347 x346.length C348, .int .u64 x349] :: os) (Ro.sl (Kd.int .u8) A347 C348 x346 :: Ro.sl (Kd.int .u8) A286 C287 l285 :: rs)) := by
  unfold confidantref15_Picks_Next.f at H
  refine calls_of_EW (args := [.pointer (some ⟨g284, 0, none⟩), .int .i64 a289]) (c := C17) 35 Try.func17 (by kernel_rfl) (by kernel_rfl) (by kernel_rfl) ?_
  refine EW.seq (x := C17.l) (y := C17.r) (by kernel_rfl) ?_
  refine EW.region (id := 0) (ops := C17.l.ops) (by kernel_rfl) ?_
  refine EL.quick 1 [0, 1] [(0, .pointer (some ⟨g284, 0, none⟩)), (1, .int .i64 a289)] (by kernel_rfl) ?_
  refine EL.done (by kernel_rfl) ?_
  refine EQ.code ?_
  refine EW.seq (x := C17.r.l) (y := C17.r.r) (by kernel_rfl) ?_
  refine EW.seq (x := C17.r.l.l) (y := C17.r.l.r) (by kernel_rfl) ?_
  refine EW.region (id := 1) (ops := C17.r.l.l.ops) (by kernel_rfl) ?_
  refine EL.quick 3 [0, 1, 8] [(0, .pointer (some ⟨g284, 0, none⟩)), (1, .int .i64 a289), (8, .pointer (some ⟨g284, 0, none⟩))] (by kernel_rfl) ?_
  refine EL.of (EO.Y (YO.loadBox hS 0 rfl 22 0 1 (.slice A286 l285.length C287) 9 (by kernel_rfl) (by kernel_rfl) (by kernel_rfl) (by kernel_rfl)) ?_)
  refine EL.quick 2 [0, 1, 11] [(0, .pointer (some ⟨g284, 0, none⟩)), (1, .int .i64 a289), (11, .bool (decide ((l285.length : Int) = 0)))] (by kernel_rfl) ?_
  refine EL.done (by kernel_rfl) ?_
  refine EQ.code ?_
  refine EW.condP (o := (.tmp 11)) (x := C17.r.l.r.l) (y := C17.r.l.r.r) ((l285.length : Int) = 0) (by kernel_rfl) (by kernel_rfl) (fun h358 => ?_) (fun h358 => ?_)
  · rw [if_pos h358] at H
    refine EW.seq (x := C17.r.l.r.l.l) (y := C17.r.l.r.l.r) (by kernel_rfl) ?_
    refine EW.region (id := 2) (ops := C17.r.l.r.l.l.ops) (by kernel_rfl) ?_
    refine EL.quick 3 [12, 14] [(12, .pointer (some ⟨g284, 0, none⟩)), (14, .int .i64 (mx a289 1))] (by kernel_rfl) ?_
    have hS : St B _ (Ass.box 33 g284 [.slice A286 l285.length C287, .int .u64 a288] :: os) (Ro.sl (Kd.int .u8) A286 C287 l285 :: Ro.sl (Kd.int .u8) A286 C287 l285 :: rs) := hS.re [0] [] rfl (sub_cons 0 rfl sub_self)
    obtain ⟨t359, t360, t361, hc364, H⟩ := b3_out H
    refine EL.of (EO.callD 47 [.pointer (some ⟨g284, 0, none⟩), .int .i64 (mx a289 1)] _ 15 (by kernel_rfl) (by kernel_rfl) (by kernel_rfl) (confidantref15_Picks_Below.calls hc364 hS) ?_)
    rintro v w ⟨A362, C363, rfl, hS⟩
    refine EL.quick 1 [4] [(4, .int .i64 t361)] (by kernel_rfl) ?_
    refine EL.done (by kernel_rfl) ?_
    refine EQ.code ?_
    refine EW.ret (by kernel_rfl) ?_
    refine EQ.ret ?_
    simp only [Option.some.injEq, Prod.mk.injEq] at H
    obtain ⟨rfl, rfl, rfl⟩ := H
    exact EQ.leave (.int .i64 t361) (by kernel_rfl) ⟨_, rfl, A362, C363, rfl, (hS.re [0] [] rfl (sub_cons 0 rfl (sub_tail (sub_tail (sub_self)))))⟩
  · rw [if_neg h358] at H
    refine EW.skip (by kernel_rfl) ?_
    refine EQ.code ?_
    refine EW.seq (x := C17.r.r.l) (y := C17.r.r.r) (by kernel_rfl) ?_
    refine EW.region (id := 3) (ops := C17.r.r.l.ops) (by kernel_rfl) ?_
    refine EL.quick 3 [0, 1, 18] [(0, .pointer (some ⟨g284, 0, none⟩)), (1, .int .i64 a289), (18, .pointer (some ⟨g284, 0, none⟩))] (by kernel_rfl) ?_
    refine EL.of (EO.Y (YO.loadBox hS 0 rfl 22 0 1 (.slice A286 l285.length C287) 19 (by kernel_rfl) (by kernel_rfl) (by kernel_rfl) (by kernel_rfl)) ?_)
    obtain ⟨h368, H⟩ := ite_in H
    obtain ⟨ad369, rfl⟩ := St.rd_some hS (Rd.ro 0 rfl) (by decide) h368
    refine EL.of (EO.Y (YO.idx 22 1 ad369 l285.length C287 .i64 0 20 (by kernel_rfl) (by kernel_rfl) (by kernel_rfl) (by kernel_rfl) (by decide) h368) ?_)
    refine EL.of (EO.Y (YO.loadEl hS (Kd.int .u8) ad369 C287 l285 (Rd.ro 0 rfl) 0 (encI .u8) encI_of 0 (by decide) h368 5 1 0 1 rfl (.int .u8 (l285.getD (0 : Int).toNat 0)) 21 (by kernel_rfl) (by kernel_rfl) (by kernel_rfl) (by kernel_rfl)) ?_)
    refine EL.quick 3 [0, 22, 24] [(0, .pointer (some ⟨g284, 0, none⟩)), (22, .int .i64 (IntKind.i64.wrap (l285.getD (0 : Int).toNat 0))), (24, .int .i64 (mx a289 1))] (by kernel_rfl) ?_
    obtain ⟨h370, H⟩ := ite_out H
    refine EL.of (EO.Y (YO.div .rem .i64 (IntKind.i64.wrap (l285.getD (0 : Int).toNat 0)) (mx a289 1) (Int.tmod (IntKind.i64.wrap (l285.getD (0 : Int).toNat 0)) (mx a289 1)) 25 (by kernel_rfl) (by kernel_rfl) (by kernel_rfl) h370 (by first | exact .inl ⟨rfl, rfl⟩ | exact .inr ⟨rfl, rfl⟩)) ?_)
    refine EL.quick 1 [0, 5] [(0, .pointer (some ⟨g284, 0, none⟩)), (5, .int .i64 (Int.tmod (IntKind.i64.wrap (l285.getD (0 : Int).toNat 0)) (mx a289 1)))] (by kernel_rfl) ?_
    refine EL.done (by kernel_rfl) ?_
    refine EQ.code ?_
    refine EW.seq (x := C17.r.r.r.l) (y := C17.r.r.r.r) (by kernel_rfl) ?_
    refine EW.region (id := 4) (ops := C17.r.r.r.l.ops) (by kernel_rfl) ?_
    refine EL.quick 4 [5, 26, 29] [(5, .int .i64 (Int.tmod (IntKind.i64.wrap (l285.getD (0 : Int).toNat 0)) (mx a289 1))), (26, .pointer (some ⟨g284, 0, none⟩)), (29, .pointer (some ⟨g284, 0, none⟩))] (by kernel_rfl) ?_
    refine EL.of (EO.Y (YO.loadBox hS 0 rfl 22 0 1 (.slice (some ad369) l285.length C287) 30 (by kernel_rfl) (by kernel_rfl) (by kernel_rfl) (by kernel_rfl)) ?_)
    obtain ⟨h371, H⟩ := ite_in H
    obtain ⟨l372, hl372, H⟩ := lt_out H
    refine EL.of (EO.sliceRo hS (Kd.int .u8) (some ad369) C287 l285 0 rfl (some (.int .i64 1)) none none 1 l285.length C287 l372 (by rw [hl372]; exact (slice_lo _ _)) 22 31 (by kernel_rfl) (by kernel_rfl) (by kernel_rfl) (by kernel_rfl) (rfl) (rfl) ⟨rfl, fun h => by first | rfl | cases h⟩ (by omega) (by omega) (.inl rfl) ?_)
    intro A373 C374 hS
    refine EL.quick 2 [5, 31, 33] [(5, .int .i64 (Int.tmod (IntKind.i64.wrap (l285.getD (0 : Int).toNat 0)) (mx a289 1))), (31, .slice A373 l372.length C374), (33, .pointer (some ⟨g284, 0, none⟩))] (by kernel_rfl) ?_
    refine EL.of (EO.storeBox (os' := Ass.box 33 g284 [.slice A373 l372.length C374, .int .u64 a288] :: os) hS 0 rfl 22 0 (.slice A373 l372.length C374) [.slice A373 l372.length C374, .int .u64 a288] (by kernel_rfl) (by kernel_rfl) (by kernel_rfl) (by kernel_rfl) (by kernel_rfl) (by kernel_rfl) rfl rfl ?_)
    intro w hS
    refine EL.done (by kernel_rfl) ?_
    refine EQ.code ?_
    refine EW.seq (x := C17.r.r.r.r.l) (y := C17.r.r.r.r.r) (by kernel_rfl) ?_
    refine EW.region (id := 5) (ops := C17.r.r.r.r.l.ops) (by kernel_rfl) ?_
    refine EL.quick 2 [4] [(4, .int .i64 (Int.tmod (IntKind.i64.wrap (l285.getD (0 : Int).toNat 0)) (mx a289 1)))] (by kernel_rfl) ?_
    refine EL.done (by kernel_rfl) ?_
    refine EQ.code ?_
    refine EW.ret (by kernel_rfl) ?_
    simp only [Option.some.injEq, Prod.mk.injEq] at H
    obtain ⟨rfl, rfl, rfl⟩ := H
    exact EQ.leave (.int .i64 (Int.tmod (IntKind.i64.wrap (l285.getD (0 : Int).toNat 0)) (mx a289 1))) (by kernel_rfl) ⟨_, rfl, A373, C374, rfl, (hS.re [0] [] rfl (sub_cons 0 rfl (sub_tail (sub_self))))⟩

/-! ### confidant/confidantlaw17.known: function 13 -/
def confidantlaw17_known.f (K : Nat)  : Option Bool := lt ([5, 3] : List Int) fun l405 => (b2 (picks_New.f K l405 7) fun (t406 : List Int) (t407 : Int) => (b3 (picks_Picks_Next.f K t406 t407 2) fun (t425 : Int) (t426 : List Int) (t427 : Int) => (b3 (picks_Picks_Next.f K t426 t425 0) fun (t431 : Int) (t432 : List Int) (t433 : Int) => (b2 (picks_Picks_Left.f K t432 t431) fun (t440 : Int) (t441 : Int) => (b3 (picks_Picks_Next.f K t432 t440 4) fun (t449 : Int) (t450 : List Int) (t451 : Int) => (b2 (confidantref15_NewPicks.f K ([] : List Int) 7) fun (t461 : List Int) (t462 : Int) => (if t427 = 1 then (if t433 = 0 then (if t441 = 0 then (b3 (confidantref15_Picks_Next.f K t461 t462 4) fun (t470 : List Int) (t471 : Int) (t472 : Int) => (if t451 = t472 then (lt ([1] : List Int) fun l478 => (b2 (picks_New.f K l478 0) fun (t479 : List Int) (t480 : Int) => (b2 (picks_Picks_Left.f K t479 t480) fun (t486 : Int) (t487 : Int) => (some (decide (t487 = 1)))))) else (some false))) else (some false)) else (some false)) else (some false))))))))
set_option maxRecDepth 100000 in
theorem confidantlaw17_known.calls {K : Nat} {x394 : Bool} {B w : World} {os : List Ass} {rs : List Ro} (H : confidantlaw17_known.f K = some x394) (hS : St B w (os) (rs)) :
    Calls Try.prog 13 [].toArray w (fun en w' => ∃ v, en = .returned v ∧ v = .bool (x394) ∧ St B w' (os) (rs)) := by
  unfold confidantlaw17_known.f at H
  refine calls_of_EW (args := []) (c := C13) 42 Try.func13 (by kernel_rfl) (by kernel_rfl) (by kernel_rfl) ?_
  refine EW.seq (x := C13.l) (y := C13.r) (by kernel_rfl) ?_
  refine EW.region (id := 0) (ops := C13.l.ops) (by kernel_rfl) ?_
  refine EL.quick 1 [] [] (by kernel_rfl) ?_
  refine EL.done (by kernel_rfl) ?_
  refine EQ.code ?_
  refine EW.seq (x := C13.r.l) (y := C13.r.r) (by kernel_rfl) ?_
  refine EW.region (id := 1) (ops := C13.r.l.ops) (by kernel_rfl) ?_
  obtain ⟨l405, hl405, H⟩ := lt_out H
  refine EL.of (EO.lit hS (Kd.int .u8) 5 22 2 #[(0, .int .u8 5), (1, .int .u8 3)] [.int .u8 5, .int .u8 3] l405 7 (by kernel_rfl) (by kernel_rfl) (by kernel_rfl) (fun _ => (by kernel_rfl)) (by rw [hl405]; rfl) (by kernel_rfl) (fun w G hr => (by rw [hl405]; exact ⟨[.int .u8 5], [.int .u8 3], rfl, rfl, ⟨[.int .u8 3], [], rfl, rfl, rfl⟩⟩)) ?_)
  intro g404 w hS
  have hS := St.fr hS 0 rfl
  have hS : St B _ (os) (Ro.sl (Kd.int .u8) (some ⟨g404, 0, none⟩) 2 l405 :: Ro.sl (Kd.int .u8) (some ⟨g404, 0, none⟩) 2 l405 :: rs) := hS.re [] [] rfl (sub_cons 0 rfl sub_self)
  obtain ⟨t406, t407, hc412, H⟩ := b2_out H
  refine EL.of (EO.callD 14 [.slice (some ⟨g404, 0, none⟩) l405.length 2, .int .u64 7] _ 8 (by kernel_rfl) (by kernel_rfl) (by kernel_rfl) (picks_New.calls hc412 hS) ?_)
  rintro v w ⟨g408, g409, A410, C411, rfl, hS⟩
  refine EL.quick 1 [1] [(1, .pointer (some ⟨g408, 0, none⟩))] (by kernel_rfl) ?_
  refine EL.done (by kernel_rfl) ?_
  refine EQ.code ?_
  refine EW.seq (x := C13.r.r.l) (y := C13.r.r.r) (by kernel_rfl) ?_
  refine EW.seq (x := C13.r.r.l.l) (y := C13.r.r.l.r) (by kernel_rfl) ?_
  refine EW.region (id := 2) (ops := C13.r.r.l.l.ops) (by kernel_rfl) ?_
  refine EL.quick 2 [1, 10] [(1, .pointer (some ⟨g408, 0, none⟩)), (10, .bool (false))] (by kernel_rfl) ?_
  refine EL.done (by kernel_rfl) ?_
  refine EQ.code ?_
  refine EW.condF (o := (.tmp 10)) (x := C13.r.r.l.r.l) (y := C13.r.r.l.r.r) (by kernel_rfl) (by kernel_rfl) ?_
  refine EW.skip (by kernel_rfl) ?_
  refine EQ.code ?_
  refine EW.seq (x := C13.r.r.r.l) (y := C13.r.r.r.r) (by kernel_rfl) ?_
  refine EW.region (id := 4) (ops := C13.r.r.r.l.ops) (by kernel_rfl) ?_
  refine EL.quick 1 [1, 11] [(1, .pointer (some ⟨g408, 0, none⟩)), (11, .pointer (some ⟨g408, 0, none⟩))] (by kernel_rfl) ?_
  have hS : St B _ (Ass.box 89 g408 [.slice A410 t406.length C411, .func (.func 46) #[.pointer (some ⟨g409, 0, none⟩)] #[]] :: Ass.own 5 (Kd.int .u8) A410 C411 t406 :: Ass.box 103 g409 [.int .u64 t407] :: os) (Ro.sl (Kd.int .u8) (some ⟨g404, 0, none⟩) 2 l405 :: Ro.sl (Kd.int .u8) (some ⟨g404, 0, none⟩) 2 l405 :: rs) := hS.re [1, 2, 2] [] rfl sub_self
  obtain ⟨t425, t426, t427, hc430, H⟩ := b3_out H
  refine EL.of (EO.callD 16 [.pointer (some ⟨g408, 0, none⟩), .int .i64 2] _ 12 (by kernel_rfl) (by kernel_rfl) (by kernel_rfl) (picks_Picks_Next.calls hc430 hS) ?_)
  rintro v w ⟨A428, C429, rfl, hS⟩
  refine EL.quick 1 [1, 12, 13] [(1, .pointer (some ⟨g408, 0, none⟩)), (12, .int .i64 t427), (13, .pointer (some ⟨g408, 0, none⟩))] (by kernel_rfl) ?_
  have hS : St B _ (Ass.box 89 g408 [.slice A428 t426.length C429, .func (.func 46) #[.pointer (some ⟨g409, 0, none⟩)] #[]] :: Ass.own 5 (Kd.int .u8) A428 C429 t426 :: Ass.box 103 g409 [.int .u64 t425] :: os) (Ro.sl (Kd.int .u8) (some ⟨g404, 0, none⟩) 2 l405 :: Ro.sl (Kd.int .u8) (some ⟨g404, 0, none⟩) 2 l405 :: rs) := hS.re [0, 2, 2] [] rfl sub_self
  obtain ⟨t431, t432, t433, hc436, H⟩ := b3_out H
  refine EL.of (EO.callD 16 [.pointer (some ⟨g408, 0, none⟩), .int .i64 0] _ 14 (by kernel_rfl) (by kernel_rfl) (by kernel_rfl) (picks_Picks_Next.calls hc436 hS) ?_)
  rintro v w ⟨A434, C435, rfl, hS⟩
  refine EL.quick 2 [1, 2, 3] [(1, .pointer (some ⟨g408, 0, none⟩)), (2, .int .i64 t427), (3, .int .i64 t433)] (by kernel_rfl) ?_
  refine EL.done (by kernel_rfl) ?_
  refine EQ.code ?_
  refine EW.seq (x := C13.r.r.r.r.l) (y := C13.r.r.r.r.r) (by kernel_rfl) ?_
  refine EW.region (id := 5) (ops := C13.r.r.r.r.l.ops) (by kernel_rfl) ?_
  refine EL.quick 1 [1, 2, 3, 15] [(1, .pointer (some ⟨g408, 0, none⟩)), (2, .int .i64 t427), (3, .int .i64 t433), (15, .pointer (some ⟨g408, 0, none⟩))] (by kernel_rfl) ?_
  have hS : St B _ (Ass.box 89 g408 [.slice A434 t432.length C435, .func (.func 46) #[.pointer (some ⟨g409, 0, none⟩)] #[]] :: Ass.own 5 (Kd.int .u8) A434 C435 t432 :: Ass.box 103 g409 [.int .u64 t431] :: os) (Ro.sl (Kd.int .u8) (some ⟨g404, 0, none⟩) 2 l405 :: Ro.sl (Kd.int .u8) (some ⟨g404, 0, none⟩) 2 l405 :: rs) := hS.re [0, 2, 2] [] rfl sub_self
  obtain ⟨t440, t441, hc442, H⟩ := b2_out H
  refine EL.of (EO.callD 18 [.pointer (some ⟨g408, 0, none⟩)] _ 16 (by kernel_rfl) (by kernel_rfl) (by kernel_rfl) (picks_Picks_Left.calls hc442 hS) ?_)
  rintro v w ⟨rfl, hS⟩
  refine EL.quick 1 [1, 2, 3, 4] [(1, .pointer (some ⟨g408, 0, none⟩)), (2, .int .i64 t427), (3, .int .i64 t433), (4, .int .i64 t441)] (by kernel_rfl) ?_
  refine EL.done (by kernel_rfl) ?_
  refine EQ.code ?_
  refine EW.seq (x := C13.r.r.r.r.r.l) (y := C13.r.r.r.r.r.r) (by kernel_rfl) ?_
  refine EW.region (id := 6) (ops := C13.r.r.r.r.r.l.ops) (by kernel_rfl) ?_
  refine EL.quick 1 [2, 3, 4, 17] [(2, .int .i64 t427), (3, .int .i64 t433), (4, .int .i64 t441), (17, .pointer (some ⟨g408, 0, none⟩))] (by kernel_rfl) ?_
  obtain ⟨t449, t450, t451, hc454, H⟩ := b3_out H
  refine EL.of (EO.callD 16 [.pointer (some ⟨g408, 0, none⟩), .int .i64 4] _ 18 (by kernel_rfl) (by kernel_rfl) (by kernel_rfl) (picks_Picks_Next.calls hc454 hS) ?_)
  rintro v w ⟨A452, C453, rfl, hS⟩
  refine EL.quick 1 [2, 3, 4, 5] [(2, .int .i64 t427), (3, .int .i64 t433), (4, .int .i64 t441), (5, .int .i64 t451)] (by kernel_rfl) ?_
  refine EL.done (by kernel_rfl) ?_
  refine EQ.code ?_
  refine EW.seq (x := C13.r.r.r.r.r.r.l) (y := C13.r.r.r.r.r.r.r) (by kernel_rfl) ?_
  refine EW.region (id := 7) (ops := C13.r.r.r.r.r.r.l.ops) (by kernel_rfl) ?_
  have hS := St.nilR hS (Kd.int .u8)
  have hS : St B _ (Ass.box 103 g409 [.int .u64 t449] :: Ass.box 89 g408 [.slice A452 t450.length C453, .func (.func 46) #[.pointer (some ⟨g409, 0, none⟩)] #[]] :: Ass.own 5 (Kd.int .u8) A452 C453 t450 :: os) (Ro.sl (Kd.int .u8) none 0 ([] : List Int) :: Ro.sl (Kd.int .u8) none 0 ([] : List Int) :: Ro.sl (Kd.int .u8) (some ⟨g404, 0, none⟩) 2 l405 :: Ro.sl (Kd.int .u8) (some ⟨g404, 0, none⟩) 2 l405 :: rs) := hS.re [] [] rfl (sub_cons 0 rfl sub_self)
  obtain ⟨t461, t462, hc466, H⟩ := b2_out H
  refine EL.of (EO.callD 15 [.slice none ([] : List Int).length 0, .int .u64 7] _ 19 (by kernel_rfl) (by kernel_rfl) (by kernel_rfl) (confidantref15_NewPicks.calls hc466 hS) ?_)
  rintro v w ⟨g463, A464, C465, rfl, hS⟩
  refine EL.quick 1 [2, 3, 4, 5, 6] [(2, .int .i64 t427), (3, .int .i64 t433), (4, .int .i64 t441), (5, .int .i64 t451), (6, .pointer (some ⟨g463, 0, none⟩))] (by kernel_rfl) ?_
  refine EL.done (by kernel_rfl) ?_
  refine EQ.code ?_
  refine EW.seq (x := C13.r.r.r.r.r.r.r.l) (y := C13.r.r.r.r.r.r.r.r) (by kernel_rfl) ?_
  refine EW.region (id := 8) (ops := C13.r.r.r.r.r.r.r.l.ops) (by kernel_rfl) ?_
  refine EL.quick 3 [3, 4, 5, 6, 22] [(3, .int .i64 t433), (4, .int .i64 t441), (5, .int .i64 t451), (6, .pointer (some ⟨g463, 0, none⟩)), (22, .bool (decide (t427 = 1)))] (by kernel_rfl) ?_
  by_cases h467 : t427 = 1
  · rw [if_pos h467] at H
    refine EL.keep [3, 4, 5, 6, 22] [(3, .int .i64 t433), (4, .int .i64 t441), (5, .int .i64 t451), (6, .pointer (some ⟨g463, 0, none⟩)), (22, .bool (decide (t427 = 1)))] (by kernel_rfl) ?_
    refine EL.as' [(3, .int .i64 t433), (4, .int .i64 t441), (5, .int .i64 t451), (6, .pointer (some ⟨g463, 0, none⟩)), (22, .bool (true))] (by simp only [dec_t h467, Bool.not_true, Bool.not_false]) ?_
    refine EL.quick 4 [4, 5, 6, 26] [(4, .int .i64 t441), (5, .int .i64 t451), (6, .pointer (some ⟨g463, 0, none⟩)), (26, .bool (decide (t433 = 0)))] (by kernel_rfl) ?_
    by_cases h468 : t433 = 0
    · rw [if_pos h468] at H
      refine EL.keep [4, 5, 6, 26] [(4, .int .i64 t441), (5, .int .i64 t451), (6, .pointer (some ⟨g463, 0, none⟩)), (26, .bool (decide (t433 = 0)))] (by kernel_rfl) ?_
      refine EL.as' [(4, .int .i64 t441), (5, .int .i64 t451), (6, .pointer (some ⟨g463, 0, none⟩)), (26, .bool (true))] (by simp only [dec_t h468, Bool.not_true, Bool.not_false]) ?_
      refine EL.quick 4 [5, 6, 30] [(5, .int .i64 t451), (6, .pointer (some ⟨g463, 0, none⟩)), (30, .bool (decide (t441 = 0)))] (by kernel_rfl) ?_
      by_cases h469 : t441 = 0
      · rw [if_pos h469] at H
        refine EL.keep [5, 6, 30] [(5, .int .i64 t451), (6, .pointer (some ⟨g463, 0, none⟩)), (30, .bool (decide (t441 = 0)))] (by kernel_rfl) ?_
        refine EL.as' [(5, .int .i64 t451), (6, .pointer (some ⟨g463, 0, none⟩)), (30, .bool (true))] (by simp only [dec_t h469, Bool.not_true, Bool.not_false]) ?_
        refine EL.quick 2 [30, 31, 32] [(30, .bool (true)), (31, .int .i64 t451), (32, .pointer (some ⟨g463, 0, none⟩))] (by kernel_rfl) ?_
        have hS : St B _ (Ass.box 33 g463 [.slice A464 t461.length C465, .int .u64 t462] :: Ass.box 103 g409 [.int .u64 t449] :: Ass.box 89 g408 [.slice A452 t450.length C453, .func (.func 46) #[.pointer (some ⟨g409, 0, none⟩)] #[]] :: Ass.own 5 (Kd.int .u8) A452 C453 t450 :: os) (Ro.sl (Kd.int .u8) A464 C465 t461 :: Ro.sl (Kd.int .u8) A464 C465 t461 :: Ro.sl (Kd.int .u8) none 0 ([] : List Int) :: Ro.sl (Kd.int .u8) none 0 ([] : List Int) :: Ro.sl (Kd.int .u8) (some ⟨g404, 0, none⟩) 2 l405 :: Ro.sl (Kd.int .u8) (some ⟨g404, 0, none⟩) 2 l405 :: rs) := hS.re [0] [] rfl (sub_cons 0 rfl sub_self)
        obtain ⟨t470, t471, t472, hc475, H⟩ := b3_out H
        refine EL.of (EO.callD 17 [.pointer (some ⟨g463, 0, none⟩), .int .i64 4] _ 33 (by kernel_rfl) (by kernel_rfl) (by kernel_rfl) (confidantref15_Picks_Next.calls hc475 hS) ?_)
        rintro v w ⟨A473, C474, rfl, hS⟩
        refine EL.quick 3 [36] [(36, .bool (decide (t451 = t472)))] (by kernel_rfl) ?_
        by_cases h476 : t451 = t472
        · rw [if_pos h476] at H
          refine EL.keep [36] [(36, .bool (decide (t451 = t472)))] (by kernel_rfl) ?_
          refine EL.as' [(36, .bool (true))] (by simp only [dec_t h476, Bool.not_true, Bool.not_false]) ?_
          obtain ⟨l478, hl478, H⟩ := lt_out H
          refine EL.of (EO.lit hS (Kd.int .u8) 5 22 1 #[(0, .int .u8 1)] [.int .u8 1] l478 37 (by kernel_rfl) (by kernel_rfl) (by kernel_rfl) (fun _ => (by kernel_rfl)) (by rw [hl478]; rfl) (by kernel_rfl) (fun w G hr => (by rw [hl478]; exact ⟨[.int .u8 1], [], rfl, rfl, rfl⟩)) ?_)
          intro g477 w hS
          have hS := St.fr hS 0 rfl
          have hS : St B _ (Ass.box 33 g463 [.slice A473 t470.length C474, .int .u64 t471] :: Ass.box 103 g409 [.int .u64 t449] :: Ass.box 89 g408 [.slice A452 t450.length C453, .func (.func 46) #[.pointer (some ⟨g409, 0, none⟩)] #[]] :: Ass.own 5 (Kd.int .u8) A452 C453 t450 :: os) (Ro.sl (Kd.int .u8) (some ⟨g477, 0, none⟩) 1 l478 :: Ro.sl (Kd.int .u8) (some ⟨g477, 0, none⟩) 1 l478 :: Ro.sl (Kd.int .u8) A473 C474 t470 :: Ro.sl (Kd.int .u8) A464 C465 t461 :: Ro.sl (Kd.int .u8) A464 C465 t461 :: Ro.sl (Kd.int .u8) none 0 ([] : List Int) :: Ro.sl (Kd.int .u8) none 0 ([] : List Int) :: Ro.sl (Kd.int .u8) (some ⟨g404, 0, none⟩) 2 l405 :: Ro.sl (Kd.int .u8) (some ⟨g404, 0, none⟩) 2 l405 :: rs) := hS.re [] [] rfl (sub_cons 0 rfl sub_self)
          obtain ⟨t479, t480, hc485, H⟩ := b2_out H
          refine EL.of (EO.callD 14 [.slice (some ⟨g477, 0, none⟩) l478.length 1, .int .u64 0] _ 38 (by kernel_rfl) (by kernel_rfl) (by kernel_rfl) (picks_New.calls hc485 hS) ?_)
          rintro v w ⟨g481, g482, A483, C484, rfl, hS⟩
          have hS : St B _ (Ass.box 89 g481 [.slice A483 t479.length C484, .func (.func 46) #[.pointer (some ⟨g482, 0, none⟩)] #[]] :: Ass.own 5 (Kd.int .u8) A483 C484 t479 :: Ass.box 103 g482 [.int .u64 t480] :: Ass.box 33 g463 [.slice A473 t470.length C474, .int .u64 t471] :: Ass.box 103 g409 [.int .u64 t449] :: Ass.box 89 g408 [.slice A452 t450.length C453, .func (.func 46) #[.pointer (some ⟨g409, 0, none⟩)] #[]] :: Ass.own 5 (Kd.int .u8) A452 C453 t450 :: os) (Ro.sl (Kd.int .u8) (some ⟨g477, 0, none⟩) 1 l478 :: Ro.sl (Kd.int .u8) (some ⟨g477, 0, none⟩) 1 l478 :: Ro.sl (Kd.int .u8) A473 C474 t470 :: Ro.sl (Kd.int .u8) A464 C465 t461 :: Ro.sl (Kd.int .u8) A464 C465 t461 :: Ro.sl (Kd.int .u8) none 0 ([] : List Int) :: Ro.sl (Kd.int .u8) none 0 ([] : List Int) :: Ro.sl (Kd.int .u8) (some ⟨g404, 0, none⟩) 2 l405 :: Ro.sl (Kd.int .u8) (some ⟨g404, 0, none⟩) 2 l405 :: rs) := hS.re [1, 2, 2] [] rfl sub_self
          obtain ⟨t486, t487, hc488, H⟩ := b2_out H
          refine EL.of (EO.callD 18 [.pointer (some ⟨g481, 0, none⟩)] _ 39 (by kernel_rfl) (by kernel_rfl) (by kernel_rfl) (picks_Picks_Left.calls hc488 hS) ?_)
          rintro v w ⟨rfl, hS⟩
          refine EL.quick 3 [0] [(0, .bool (decide (t487 = 1)))] (by kernel_rfl) ?_
          refine EL.done (by kernel_rfl) ?_
          refine EQ.code ?_
          refine EW.ret (by kernel_rfl) ?_
          obtain rfl := Option.some.inj H
          exact EQ.leave (.bool (decide (t487 = 1))) (by kernel_rfl) ⟨_, rfl, rfl, (hS.re [] [0, 0, 0, 0, 0, 0, 0] rfl (sub_tail (sub_tail (sub_tail (sub_tail (sub_tail (sub_tail (sub_tail (sub_tail (sub_tail (sub_self)))))))))))⟩
        · rw [if_neg h476] at H
          refine EL.keep [36] [(36, .bool (decide (t451 = t472)))] (by kernel_rfl) ?_
          refine EL.as' [(36, .bool (false))] (by simp only [dec_f h476, Bool.not_true, Bool.not_false]) ?_
          refine EL.quick 6 [0] [(0, .bool (false))] (by kernel_rfl) ?_
          refine EL.done (by kernel_rfl) ?_
          refine EQ.code ?_
          refine EW.ret (by kernel_rfl) ?_
          obtain rfl := Option.some.inj H
          exact EQ.leave (.bool (false)) (by kernel_rfl) ⟨_, rfl, rfl, (hS.re [] [0, 0, 0, 0] rfl (sub_tail (sub_tail (sub_tail (sub_tail (sub_tail (sub_tail (sub_tail (sub_self)))))))))⟩
      · rw [if_neg h469] at H
        refine EL.keep [5, 6, 30] [(5, .int .i64 t451), (6, .pointer (some ⟨g463, 0, none⟩)), (30, .bool (decide (t441 = 0)))] (by kernel_rfl) ?_
        refine EL.as' [(5, .int .i64 t451), (6, .pointer (some ⟨g463, 0, none⟩)), (30, .bool (false))] (by simp only [dec_f h469, Bool.not_true, Bool.not_false]) ?_
        refine EL.quick 12 [0] [(0, .bool (false))] (by kernel_rfl) ?_
        refine EL.done (by kernel_rfl) ?_
        refine EQ.code ?_
        refine EW.ret (by kernel_rfl) ?_
        obtain rfl := Option.some.inj H
        exact EQ.leave (.bool (false)) (by kernel_rfl) ⟨_, rfl, rfl, (hS.re [] [0, 0, 0, 0] rfl (sub_tail (sub_tail (sub_tail (sub_tail (sub_tail (sub_self)))))))⟩
    · rw [if_neg h468] at H
      refine EL.keep [4, 5, 6, 26] [(4, .int .i64 t441), (5, .int .i64 t451), (6, .pointer (some ⟨g463, 0, none⟩)), (26, .bool (decide (t433 = 0)))] (by kernel_rfl) ?_
      refine EL.as' [(4, .int .i64 t441), (5, .int .i64 t451), (6, .pointer (some ⟨g463, 0, none⟩)), (26, .bool (false))] (by simp only [dec_f h468, Bool.not_true, Bool.not_false]) ?_
      refine EL.quick 16 [0] [(0, .bool (false))] (by kernel_rfl) ?_
      refine EL.done (by kernel_rfl) ?_
      refine EQ.code ?_
      refine EW.ret (by kernel_rfl) ?_
      obtain rfl := Option.some.inj H
      exact EQ.leave (.bool (false)) (by kernel_rfl) ⟨_, rfl, rfl, (hS.re [] [0, 0, 0, 0] rfl (sub_tail (sub_tail (sub_tail (sub_tail (sub_tail (sub_self)))))))⟩
  · rw [if_neg h467] at H
    refine EL.keep [3, 4, 5, 6, 22] [(3, .int .i64 t433), (4, .int .i64 t441), (5, .int .i64 t451), (6, .pointer (some ⟨g463, 0, none⟩)), (22, .bool (decide (t427 = 1)))] (by kernel_rfl) ?_
    refine EL.as' [(3, .int .i64 t433), (4, .int .i64 t441), (5, .int .i64 t451), (6, .pointer (some ⟨g463, 0, none⟩)), (22, .bool (false))] (by simp only [dec_f h467, Bool.not_true, Bool.not_false]) ?_
    refine EL.quick 20 [0] [(0, .bool (false))] (by kernel_rfl) ?_
    refine EL.done (by kernel_rfl) ?_
    refine EQ.code ?_
    refine EW.ret (by kernel_rfl) ?_
    obtain rfl := Option.some.inj H
    exact EQ.leave (.bool (false)) (by kernel_rfl) ⟨_, rfl, rfl, (hS.re [] [0, 0, 0, 0] rfl (sub_tail (sub_tail (sub_tail (sub_tail (sub_tail (sub_self)))))))⟩

/-! ### confidant/confidantlaw17.PicksTell: function 3 -/
def confidantlaw17_PicksTell.l0 (K : Nat) (l12 : List Int) : Nat → (List Int) → Int → (List Int) → Int → Int → Option Bool
  | 0, _, _, _, _, _ => none
  | n + 1, x1169, x1172, x1173, x1176, x1177 => if x1177 < (l12.length : Int) then (if 0 ≤ x1177 then (lt (fun (x1401 : Int) => (b3 (picks_Picks_Next.f K x1173 x1176 x1401) fun (t1410 : Int) (t1411 : List Int) (t1412 : Int) => (lt (fun (x1440 : Int) (x1441 : List Int) (x1444 : Int) (x1445 : Bool) => (if x1445 = true then (some false) else (confidantlaw17_PicksTell.l0 K l12 n x1441 x1444 t1411 x1440 (IntKind.i64.wrap (x1177 + 1))))) fun j1446 => (b3 (confidantref15_Picks_Next.f K x1169 x1172 x1401) fun (t1447 : List Int) (t1448 : Int) (t1449 : Int) => (if t1412 = t1449 then (b2 (picks_Picks_Left.f K t1411 t1410) fun (t1454 : Int) (t1455 : Int) => (if t1455 = (t1447.length : Int) then (if t1412 < 0 then (j1446 t1454 t1447 t1448 true) else (j1446 t1454 t1447 t1448 (decide (t1412 ≥ (mx x1401 1))))) else (j1446 t1454 t1447 t1448 true))) else (j1446 t1410 t1447 t1448 true)))))) fun j1402 => (if (Int.tmod x1177 3) > 0 then (j1402 (IntKind.i64.wrap ((bA .i64 (l12.getD x1177.toNat 0) 7) + 1))) else (j1402 (l12.getD x1177.toNat 0)))) else none) else (some true)
def confidantlaw17_PicksTell.f (K : Nat) (l8 : List Int) (a11 : Int) (l12 : List Int) : Option Bool := b1 (confidantlaw17_known.f K) fun (t982 : Bool) => (if t982 = true then (lt (fun (x993 : Bool) => (if x993 = true then (some true) else (b2 (picks_New.f K l8 a11) fun (t1010 : List Int) (t1011 : Int) => (b2 (confidantref15_NewPicks.f K l8 a11) fun (t1017 : List Int) (t1018 : Int) => (confidantlaw17_PicksTell.l0 K l12 K t1017 t1018 t1010 t1011 0))))) fun j994 => (if (l8.length : Int) > 40 then (j994 true) else (j994 (decide ((l12.length : Int) > 60))))) else (some false))
set_option maxRecDepth 100000 in
theorem confidantlaw17_PicksTell.calls {K : Nat} {l8 : List Int} {a11 : Int} {l12 : List Int} {A9 : Option Addr} {C10 : Nat} {A13 : Option Addr} {C14 : Nat} {x974 : Bool} {B w : World} {os : List Ass} {rs : List Ro} (H : confidantlaw17_PicksTell.f K l8 a11 l12 = some x974) (hS : St B w (os) (Ro.sl (Kd.int .u8) A9 C10 l8 :: Ro.sl (Kd.int .i64) A13 C14 l12 :: rs)) :
    Calls Try.prog 3 [.slice A9 l8.length C10, .int .u64 a11, .slice A13 l12.length C14].toArray w (fun en w' => ∃ v, en = .returned v ∧ v = .bool (x974) ∧ St B w' (os) (Ro.sl (Kd.int .u8) A9 C10 l8 :: Ro.sl (Kd.int .i64) A13 C14 l12 :: rs)) := by
  unfold confidantlaw17_PicksTell.f at H
  refine calls_of_EW (args := [.slice A9 l8.length C10, .int .u64 a11, .slice A13 l12.length C14]) (c := C3) 72 Try.func3 (by kernel_rfl) (by kernel_rfl) (by kernel_rfl) ?_
  refine EW.seq (x := C3.l) (y := C3.r) (by kernel_rfl) ?_
  refine EW.region (id := 0) (ops := C3.l.ops) (by kernel_rfl) ?_
  refine EL.quick 1 [0, 1, 2] [(0, .slice A9 l8.length C10), (1, .int .u64 a11), (2, .slice A13 l12.length C14)] (by kernel_rfl) ?_
  refine EL.done (by kernel_rfl) ?_
  refine EQ.code ?_
  refine EW.seq (x := C3.r.l) (y := C3.r.r) (by kernel_rfl) ?_
  refine EW.seq (x := C3.r.l.l) (y := C3.r.l.r) (by kernel_rfl) ?_
  refine EW.region (id := 1) (ops := C3.r.l.l.ops) (by kernel_rfl) ?_
  obtain ⟨t982, hc983, H⟩ := b1_out H
  refine EL.of (EO.callD 13 [] _ 12 (by kernel_rfl) (by kernel_rfl) (by kernel_rfl) (confidantlaw17_known.calls hc983 hS) ?_)
  rintro v w ⟨rfl, hS⟩
  refine EL.quick 1 [0, 1, 2, 13] [(0, .slice A9 l8.length C10), (1, .int .u64 a11), (2, .slice A13 l12.length C14), (13, .bool (!(t982)))] (by kernel_rfl) ?_
  refine EL.done (by kernel_rfl) ?_
  refine EQ.code ?_
  refine EW.condQ (b := !(t982)) (o := (.tmp 13)) (x := C3.r.l.r.l) (y := C3.r.l.r.r) (t982 = true) (false) (by kernel_rfl) (by kernel_rfl) (by constructor <;> intro h <;> simp [h]) (fun h984 => ?_) (fun h984 => ?_)
  · rw [if_pos h984] at H
    refine EW.skip (by kernel_rfl) ?_
    refine EQ.code ?_
    refine EW.seq (x := C3.r.r.l) (y := C3.r.r.r) (by kernel_rfl) ?_
    obtain ⟨j994, hj994, H⟩ := lt_out H
    refine EW.cut (x := C3.r.r.l.l) (y := C3.r.r.l.r) (fun a w => ∃ x993 : Bool, Sat 72 [(0, .slice A9 l8.length C10), (1, .int .u64 a11), (2, .slice A13 l12.length C14), (21, .bool (x993))] a ∧ St B w (os) (Ro.sl (Kd.int .u8) A9 C10 l8 :: Ro.sl (Kd.int .i64) A13 C14 l12 :: rs) ∧ j994 x993 = some x974) (by kernel_rfl) ?_ (fun a w hI => ?_)
    · refine EW.region (id := 3) (ops := C3.r.r.l.l.ops) (by kernel_rfl) ?_
      refine EL.quick 4 [0, 1, 2, 17] [(0, .slice A9 l8.length C10), (1, .int .u64 a11), (2, .slice A13 l12.length C14), (17, .bool (decide ((l8.length : Int) > 40)))] (by kernel_rfl) ?_
      by_cases h995 : (l8.length : Int) > 40
      · rw [if_pos h995] at H
        refine EL.keep [0, 1, 2, 17] [(0, .slice A9 l8.length C10), (1, .int .u64 a11), (2, .slice A13 l12.length C14), (17, .bool (decide ((l8.length : Int) > 40)))] (by kernel_rfl) ?_
        refine EL.as' [(0, .slice A9 l8.length C10), (1, .int .u64 a11), (2, .slice A13 l12.length C14), (17, .bool (true))] (by simp only [dec_t h995, Bool.not_true, Bool.not_false]) ?_
        refine EL.quick 4 [0, 1, 2, 21] [(0, .slice A9 l8.length C10), (1, .int .u64 a11), (2, .slice A13 l12.length C14), (21, .bool (true))] (by kernel_rfl) ?_
        refine EL.done (by kernel_rfl) ?_
        refine EQ.to ?_
        refine EQ.keep [0, 1, 2, 21] [(0, .slice A9 l8.length C10), (1, .int .u64 a11), (2, .slice A13 l12.length C14), (21, .bool (true))] (by kernel_rfl) ?_
        exact fun a ha => ⟨true, ha, (hS.re [] [] rfl (sub_cons 0 rfl (sub_cons 1 rfl (sub_tail (sub_tail (sub_self)))))), H⟩
      · rw [if_neg h995] at H
        refine EL.keep [0, 1, 2, 17] [(0, .slice A9 l8.length C10), (1, .int .u64 a11), (2, .slice A13 l12.length C14), (17, .bool (decide ((l8.length : Int) > 40)))] (by kernel_rfl) ?_
        refine EL.as' [(0, .slice A9 l8.length C10), (1, .int .u64 a11), (2, .slice A13 l12.length C14), (17, .bool (false))] (by simp only [dec_f h995, Bool.not_true, Bool.not_false]) ?_
        refine EL.quick 4 [0, 1, 2, 21] [(0, .slice A9 l8.length C10), (1, .int .u64 a11), (2, .slice A13 l12.length C14), (21, .bool (decide ((l12.length : Int) > 60)))] (by kernel_rfl) ?_
        refine EL.done (by kernel_rfl) ?_
        refine EQ.to ?_
        refine EQ.keep [0, 1, 2, 21] [(0, .slice A9 l8.length C10), (1, .int .u64 a11), (2, .slice A13 l12.length C14), (21, .bool (decide ((l12.length : Int) > 60)))] (by kernel_rfl) ?_
        exact fun a ha => ⟨decide ((l12.length : Int) > 60), ha, (hS.re [] [] rfl (sub_cons 0 rfl (sub_cons 1 rfl (sub_tail (sub_tail (sub_self)))))), H⟩
    · obtain ⟨x993, ha, hS, H⟩ := hI
      rw [hj994] at H
      (try dsimp only at H)
      refine EW.at ?_ a ha
      clear ha a
      refine EW.condP' (o := (.tmp 21)) (x := C3.r.r.l.r.l) (y := C3.r.r.l.r.r) (x993) (by kernel_rfl) (by kernel_rfl) (fun h996 => ?_) (fun h996 => ?_)
      · rw [if_pos h996] at H
        refine EW.seq (x := C3.r.r.l.r.l.l) (y := C3.r.r.l.r.l.r) (by kernel_rfl) ?_
        refine EW.region (id := 4) (ops := C3.r.r.l.r.l.l.ops) (by kernel_rfl) ?_
        refine EL.quick 1 [6] [(6, .bool (true))] (by kernel_rfl) ?_
        refine EL.done (by kernel_rfl) ?_
        refine EQ.code ?_
        refine EW.ret (by kernel_rfl) ?_
        refine EQ.ret ?_
        obtain rfl := Option.some.inj H
        exact EQ.leave (.bool (true)) (by kernel_rfl) ⟨_, rfl, rfl, (hS.re [] [] rfl (sub_self))⟩
      · rw [if_neg h996] at H
        refine EW.skip (by kernel_rfl) ?_
        refine EQ.code ?_
        refine EW.seq (x := C3.r.r.r.l) (y := C3.r.r.r.r) (by kernel_rfl) ?_
        refine EW.region (id := 5) (ops := C3.r.r.r.l.ops) (by kernel_rfl) ?_
        refine EL.quick 2 [0, 1, 2, 22, 23] [(0, .slice A9 l8.length C10), (1, .int .u64 a11), (2, .slice A13 l12.length C14), (22, .slice A9 l8.length C10), (23, .int .u64 a11)] (by kernel_rfl) ?_
        have hS : St B _ (os) (Ro.sl (Kd.int .u8) A9 C10 l8 :: Ro.sl (Kd.int .u8) A9 C10 l8 :: Ro.sl (Kd.int .i64) A13 C14 l12 :: rs) := hS.re [] [] rfl (sub_cons 0 rfl sub_self)
        obtain ⟨t1010, t1011, hc1016, H⟩ := b2_out H
        refine EL.of (EO.callD 14 [.slice A9 l8.length C10, .int .u64 a11] _ 24 (by kernel_rfl) (by kernel_rfl) (by kernel_rfl) (picks_New.calls hc1016 hS) ?_)
        rintro v w ⟨g1012, g1013, A1014, C1015, rfl, hS⟩
        refine EL.quick 2 [2, 24, 25, 26] [(2, .slice A13 l12.length C14), (24, .pointer (some ⟨g1012, 0, none⟩)), (25, .slice A9 l8.length C10), (26, .int .u64 a11)] (by kernel_rfl) ?_
        have hS : St B _ (Ass.box 89 g1012 [.slice A1014 t1010.length C1015, .func (.func 46) #[.pointer (some ⟨g1013, 0, none⟩)] #[]] :: Ass.box 103 g1013 [.int .u64 t1011] :: Ass.own 5 (Kd.int .u8) A1014 C1015 t1010 :: os) (Ro.sl (Kd.int .u8) A9 C10 l8 :: Ro.sl (Kd.int .u8) A9 C10 l8 :: Ro.sl (Kd.int .u8) A9 C10 l8 :: Ro.sl (Kd.int .i64) A13 C14 l12 :: rs) := hS.re [] [] rfl (sub_cons 0 rfl sub_self)
        obtain ⟨t1017, t1018, hc1022, H⟩ := b2_out H
        refine EL.of (EO.callD 15 [.slice A9 l8.length C10, .int .u64 a11] _ 27 (by kernel_rfl) (by kernel_rfl) (by kernel_rfl) (confidantref15_NewPicks.calls hc1022 hS) ?_)
        rintro v w ⟨g1019, A1020, C1021, rfl, hS⟩
        refine EL.quick 2 [2, 7, 8] [(2, .slice A13 l12.length C14), (7, .pointer (some ⟨g1012, 0, none⟩)), (8, .pointer (some ⟨g1019, 0, none⟩))] (by kernel_rfl) ?_
        refine EL.done (by kernel_rfl) ?_
        refine EQ.code ?_
        refine EW.seq (x := C3.r.r.r.r.l) (y := C3.r.r.r.r.r) (by kernel_rfl) ?_
        refine EW.seq (x := C3.r.r.r.r.l.l) (y := C3.r.r.r.r.l.r) (by kernel_rfl) ?_
        refine EW.region (id := 6) (ops := C3.r.r.r.r.l.l.ops) (by kernel_rfl) ?_
        refine EL.quick 1 [2, 7, 8, 9] [(2, .slice A13 l12.length C14), (7, .pointer (some ⟨g1012, 0, none⟩)), (8, .pointer (some ⟨g1019, 0, none⟩)), (9, .int .i64 0)] (by kernel_rfl) ?_
        refine EL.done (by kernel_rfl) ?_
        refine EQ.code ?_
        refine EW.block (x := C3.r.r.r.r.l.r.l) (id := 0) (by kernel_rfl) ?_
        refine EW.loop (x := C3.r.r.r.r.l.r.l.l) (fun n a w => ∃ x1169 : List Int, ∃ x1172 : Int, ∃ x1173 : List Int, ∃ x1176 : Int, ∃ x1177 : Int, ∃ A1170 : Option Addr, ∃ C1171 : Nat, ∃ A1174 : Option Addr, ∃ C1175 : Nat, Sat 72 [(2, .slice A13 l12.length C14), (7, .pointer (some ⟨g1012, 0, none⟩)), (8, .pointer (some ⟨g1019, 0, none⟩)), (9, .int .i64 x1177)] a ∧ St B w (Ass.box 33 g1019 [.slice A1170 x1169.length C1171, .int .u64 x1172] :: Ass.box 89 g1012 [.slice A1174 x1173.length C1175, .func (.func 46) #[.pointer (some ⟨g1013, 0, none⟩)] #[]] :: Ass.box 103 g1013 [.int .u64 x1176] :: Ass.own 5 (Kd.int .u8) A1174 C1175 x1173 :: os) (Ro.sl (Kd.int .u8) A1170 C1171 x1169 :: Ro.sl (Kd.int .u8) A1020 C1021 t1017 :: Ro.sl (Kd.int .u8) A9 C10 l8 :: Ro.sl (Kd.int .u8) A9 C10 l8 :: Ro.sl (Kd.int .u8) A9 C10 l8 :: Ro.sl (Kd.int .i64) A13 C14 l12 :: rs) ∧ confidantlaw17_PicksTell.l0 K l12 n x1169 x1172 x1173 x1176 x1177 = some x974) K (by kernel_rfl) ?_ (fun n a w hI => ?_)
        · refine EQ.keep [2, 7, 8, 9] [(2, .slice A13 l12.length C14), (7, .pointer (some ⟨g1012, 0, none⟩)), (8, .pointer (some ⟨g1019, 0, none⟩)), (9, .int .i64 0)] (by kernel_rfl) ?_
          exact fun a ha => ⟨t1017, t1018, t1010, t1011, 0, A1020, C1021, A1014, C1015, ha, (hS.re [3, 3, 3, 3] [] rfl (sub_cons 0 rfl (sub_cons 0 rfl (sub_cons 1 rfl (sub_cons 1 rfl (sub_cons 1 rfl (sub_cons 4 rfl (sub_tail (sub_tail (sub_tail (sub_tail (sub_tail (sub_self))))))))))))), H⟩
        · obtain ⟨x1169, x1172, x1173, x1176, x1177, A1170, C1171, A1174, C1175, ha, hS, H⟩ := hI
          obtain _ | n := n
          · simp [confidantlaw17_PicksTell.l0] at H
          rw [confidantlaw17_PicksTell.l0.eq_2] at H
          refine EW.at ?_ a ha
          clear ha a
          refine EW.seq (x := C3.r.r.r.r.l.r.l.l.l) (y := C3.r.r.r.r.l.r.l.l.r) (by kernel_rfl) ?_
          refine EW.seq (x := C3.r.r.r.r.l.r.l.l.l.l) (y := C3.r.r.r.r.l.r.l.l.l.r) (by kernel_rfl) ?_
          refine EW.region (id := 7) (ops := C3.r.r.r.r.l.r.l.l.l.l.ops) (by kernel_rfl) ?_
          refine EL.quick 4 [2, 7, 8, 9, 31] [(2, .slice A13 l12.length C14), (7, .pointer (some ⟨g1012, 0, none⟩)), (8, .pointer (some ⟨g1019, 0, none⟩)), (9, .int .i64 x1177), (31, .bool (decide (x1177 < (l12.length : Int))))] (by kernel_rfl) ?_
          refine EL.done (by kernel_rfl) ?_
          refine EQ.code ?_
          refine EW.condP (o := (.tmp 31)) (x := C3.r.r.r.r.l.r.l.l.l.r.l) (y := C3.r.r.r.r.l.r.l.l.l.r.r) (x1177 < (l12.length : Int)) (by kernel_rfl) (by kernel_rfl) (fun h1329 => ?_) (fun h1329 => ?_)
          · rw [if_pos h1329] at H
            refine EW.skip (by kernel_rfl) ?_
            refine EQ.code ?_
            refine EW.seq (x := C3.r.r.r.r.l.r.l.l.r.l) (y := C3.r.r.r.r.l.r.l.l.r.r) (by kernel_rfl) ?_
            refine EW.block (x := C3.r.r.r.r.l.r.l.l.r.l.l) (id := 1) (by kernel_rfl) ?_
            refine EW.seq (x := C3.r.r.r.r.l.r.l.l.r.l.l.l) (y := C3.r.r.r.r.l.r.l.l.r.l.l.r) (by kernel_rfl) ?_
            refine EW.region (id := 9) (ops := C3.r.r.r.r.l.r.l.l.r.l.l.l.ops) (by kernel_rfl) ?_
            refine EL.quick 2 [2, 7, 8, 9, 34, 35] [(2, .slice A13 l12.length C14), (7, .pointer (some ⟨g1012, 0, none⟩)), (8, .pointer (some ⟨g1019, 0, none⟩)), (9, .int .i64 x1177), (34, .slice A13 l12.length C14), (35, .int .i64 x1177)] (by kernel_rfl) ?_
            obtain ⟨h1397, H⟩ := ite_in H
            obtain ⟨ad1398, rfl⟩ := St.rd_some hS (Rd.ro 5 rfl) h1397 h1329
            refine EL.of (EO.Y (YO.idx 24 1 ad1398 l12.length C14 .i64 x1177 36 (by kernel_rfl) (by kernel_rfl) (by kernel_rfl) (by kernel_rfl) h1397 h1329) ?_)
            refine EL.of (EO.Y (YO.loadEl hS (Kd.int .i64) ad1398 C14 l12 (Rd.ro 5 rfl) 0 (encI .i64) encI_of x1177 h1397 h1329 3 1 0 1 rfl (.int .i64 (l12.getD x1177.toNat 0)) 37 (by kernel_rfl) (by kernel_rfl) (by kernel_rfl) (by kernel_rfl)) ?_)
            refine EL.quick 1 [2, 7, 8, 9, 10] [(2, .slice (some ad1398) l12.length C14), (7, .pointer (some ⟨g1012, 0, none⟩)), (8, .pointer (some ⟨g1019, 0, none⟩)), (9, .int .i64 x1177), (10, .int .i64 (l12.getD x1177.toNat 0))] (by kernel_rfl) ?_
            refine EL.done (by kernel_rfl) ?_
            refine EQ.code ?_
            obtain ⟨j1402, hj1402, H⟩ := lt_out H
            refine EW.cut (x := C3.r.r.r.r.l.r.l.l.r.l.l.r.l) (y := C3.r.r.r.r.l.r.l.l.r.l.l.r.r) (fun a w => ∃ x1401 : Int, Sat 72 [(2, .slice (some ad1398) l12.length C14), (7, .pointer (some ⟨g1012, 0, none⟩)), (8, .pointer (some ⟨g1019, 0, none⟩)), (9, .int .i64 x1177), (10, .int .i64 x1401)] a ∧ St B w (Ass.box 33 g1019 [.slice A1170 x1169.length C1171, .int .u64 x1172] :: Ass.box 89 g1012 [.slice A1174 x1173.length C1175, .func (.func 46) #[.pointer (some ⟨g1013, 0, none⟩)] #[]] :: Ass.box 103 g1013 [.int .u64 x1176] :: Ass.own 5 (Kd.int .u8) A1174 C1175 x1173 :: os) (Ro.sl (Kd.int .u8) A1170 C1171 x1169 :: Ro.sl (Kd.int .u8) A1020 C1021 t1017 :: Ro.sl (Kd.int .u8) A9 C10 l8 :: Ro.sl (Kd.int .u8) A9 C10 l8 :: Ro.sl (Kd.int .u8) A9 C10 l8 :: Ro.sl (Kd.int .i64) (some ad1398) C14 l12 :: rs) ∧ j1402 x1401 = some x974) (by kernel_rfl) ?_ (fun a w hI => ?_)
            · refine EW.seq (x := C3.r.r.r.r.l.r.l.l.r.l.l.r.l.l) (y := C3.r.r.r.r.l.r.l.l.r.l.l.r.l.r) (by kernel_rfl) ?_
              refine EW.region (id := 10) (ops := C3.r.r.r.r.l.r.l.l.r.l.l.r.l.l.ops) (by kernel_rfl) ?_
              refine EL.quick 3 [2, 7, 8, 9, 10, 40] [(2, .slice (some ad1398) l12.length C14), (7, .pointer (some ⟨g1012, 0, none⟩)), (8, .pointer (some ⟨g1019, 0, none⟩)), (9, .int .i64 x1177), (10, .int .i64 (l12.getD x1177.toNat 0)), (40, .bool (decide ((Int.tmod x1177 3) > 0)))] (by kernel_rfl) ?_
              refine EL.done (by kernel_rfl) ?_
              refine EQ.code ?_
              refine EW.condP (o := (.tmp 40)) (x := C3.r.r.r.r.l.r.l.l.r.l.l.r.l.r.l) (y := C3.r.r.r.r.l.r.l.l.r.l.l.r.l.r.r) ((Int.tmod x1177 3) > 0) (by kernel_rfl) (by kernel_rfl) (fun h1403 => ?_) (fun h1403 => ?_)
              · rw [if_pos h1403] at H
                refine EW.region (id := 11) (ops := C3.r.r.r.r.l.r.l.l.r.l.l.r.l.r.l.ops) (by kernel_rfl) ?_
                refine EL.quick 4 [2, 7, 8, 9, 10] [(2, .slice (some ad1398) l12.length C14), (7, .pointer (some ⟨g1012, 0, none⟩)), (8, .pointer (some ⟨g1019, 0, none⟩)), (9, .int .i64 x1177), (10, .int .i64 (IntKind.i64.wrap ((bA .i64 (l12.getD x1177.toNat 0) 7) + 1)))] (by kernel_rfl) ?_
                refine EL.done (by kernel_rfl) ?_
                refine EQ.to ?_
                refine EQ.keep [2, 7, 8, 9, 10] [(2, .slice (some ad1398) l12.length C14), (7, .pointer (some ⟨g1012, 0, none⟩)), (8, .pointer (some ⟨g1019, 0, none⟩)), (9, .int .i64 x1177), (10, .int .i64 (IntKind.i64.wrap ((bA .i64 (l12.getD x1177.toNat 0) 7) + 1)))] (by kernel_rfl) ?_
                exact fun a ha => ⟨IntKind.i64.wrap ((bA .i64 (l12.getD x1177.toNat 0) 7) + 1), ha, (hS.re [3, 3, 3, 3] [] rfl (sub_cons 0 rfl (sub_cons 1 rfl (sub_cons 2 rfl (sub_cons 2 rfl (sub_cons 2 rfl (sub_cons 5 rfl (sub_tail (sub_tail (sub_tail (sub_tail (sub_tail (sub_tail (sub_self)))))))))))))), H⟩
              · rw [if_neg h1403] at H
                refine EW.skip (by kernel_rfl) ?_
                refine EQ.to ?_
                refine EQ.keep [2, 7, 8, 9, 10] [(2, .slice (some ad1398) l12.length C14), (7, .pointer (some ⟨g1012, 0, none⟩)), (8, .pointer (some ⟨g1019, 0, none⟩)), (9, .int .i64 x1177), (10, .int .i64 (l12.getD x1177.toNat 0))] (by kernel_rfl) ?_
                exact fun a ha => ⟨(l12.getD x1177.toNat 0), ha, (hS.re [3, 3, 3, 3] [] rfl (sub_cons 0 rfl (sub_cons 1 rfl (sub_cons 2 rfl (sub_cons 2 rfl (sub_cons 2 rfl (sub_cons 5 rfl (sub_tail (sub_tail (sub_tail (sub_tail (sub_tail (sub_tail (sub_self)))))))))))))), H⟩
            · obtain ⟨x1401, ha, hS, H⟩ := hI
              rw [hj1402] at H
              (try dsimp only at H)
              refine EW.at ?_ a ha
              clear ha a
              refine EW.seq (x := C3.r.r.r.r.l.r.l.l.r.l.l.r.r.l) (y := C3.r.r.r.r.l.r.l.l.r.l.l.r.r.r) (by kernel_rfl) ?_
              refine EW.region (id := 12) (ops := C3.r.r.r.r.l.r.l.l.r.l.l.r.r.l.ops) (by kernel_rfl) ?_
              refine EL.quick 2 [2, 7, 8, 9, 10, 44, 45] [(2, .slice (some ad1398) l12.length C14), (7, .pointer (some ⟨g1012, 0, none⟩)), (8, .pointer (some ⟨g1019, 0, none⟩)), (9, .int .i64 x1177), (10, .int .i64 x1401), (44, .pointer (some ⟨g1012, 0, none⟩)), (45, .int .i64 x1401)] (by kernel_rfl) ?_
              have hS : St B _ (Ass.box 89 g1012 [.slice A1174 x1173.length C1175, .func (.func 46) #[.pointer (some ⟨g1013, 0, none⟩)] #[]] :: Ass.own 5 (Kd.int .u8) A1174 C1175 x1173 :: Ass.box 103 g1013 [.int .u64 x1176] :: Ass.box 33 g1019 [.slice A1170 x1169.length C1171, .int .u64 x1172] :: os) (Ro.sl (Kd.int .u8) A1170 C1171 x1169 :: Ro.sl (Kd.int .u8) A1020 C1021 t1017 :: Ro.sl (Kd.int .u8) A9 C10 l8 :: Ro.sl (Kd.int .u8) A9 C10 l8 :: Ro.sl (Kd.int .u8) A9 C10 l8 :: Ro.sl (Kd.int .i64) (some ad1398) C14 l12 :: rs) := hS.re [2, 3, 3] [] rfl sub_self
              obtain ⟨t1410, t1411, t1412, hc1415, H⟩ := b3_out H
              refine EL.of (EO.callD 16 [.pointer (some ⟨g1012, 0, none⟩), .int .i64 x1401] _ 46 (by kernel_rfl) (by kernel_rfl) (by kernel_rfl) (picks_Picks_Next.calls hc1415 hS) ?_)
              rintro v w ⟨A1413, C1414, rfl, hS⟩
              refine EL.quick 1 [2, 7, 8, 9, 10, 11] [(2, .slice (some ad1398) l12.length C14), (7, .pointer (some ⟨g1012, 0, none⟩)), (8, .pointer (some ⟨g1019, 0, none⟩)), (9, .int .i64 x1177), (10, .int .i64 x1401), (11, .int .i64 t1412)] (by kernel_rfl) ?_
              refine EL.done (by kernel_rfl) ?_
              refine EQ.code ?_
              obtain ⟨j1446, hj1446, H⟩ := lt_out H
              refine EW.cut (x := C3.r.r.r.r.l.r.l.l.r.l.l.r.r.r.l) (y := C3.r.r.r.r.l.r.l.l.r.l.l.r.r.r.r) (fun a w => ∃ x1440 : Int, ∃ x1441 : List Int, ∃ x1444 : Int, ∃ x1445 : Bool, ∃ A1442 : Option Addr, ∃ C1443 : Nat, Sat 72 [(2, .slice (some ad1398) l12.length C14), (7, .pointer (some ⟨g1012, 0, none⟩)), (8, .pointer (some ⟨g1019, 0, none⟩)), (9, .int .i64 x1177), (71, .bool (x1445))] a ∧ St B w (Ass.box 89 g1012 [.slice A1413 t1411.length C1414, .func (.func 46) #[.pointer (some ⟨g1013, 0, none⟩)] #[]] :: Ass.own 5 (Kd.int .u8) A1413 C1414 t1411 :: Ass.box 103 g1013 [.int .u64 x1440] :: Ass.box 33 g1019 [.slice A1442 x1441.length C1443, .int .u64 x1444] :: os) (Ro.sl (Kd.int .u8) A1442 C1443 x1441 :: Ro.sl (Kd.int .u8) A1170 C1171 x1169 :: Ro.sl (Kd.int .u8) A1170 C1171 x1169 :: Ro.sl (Kd.int .u8) A1020 C1021 t1017 :: Ro.sl (Kd.int .u8) A9 C10 l8 :: Ro.sl (Kd.int .u8) A9 C10 l8 :: Ro.sl (Kd.int .u8) A9 C10 l8 :: Ro.sl (Kd.int .i64) (some ad1398) C14 l12 :: rs) ∧ j1446 x1440 x1441 x1444 x1445 = some x974) (by kernel_rfl) ?_ (fun a w hI => ?_)
              · obtain ⟨t1447, t1448, t1449, hc1452, H⟩ := b3_out H
                by_cases h1453 : t1412 = t1449
                · rw [if_pos h1453] at H
                  obtain ⟨t1454, t1455, hc1456, H⟩ := b2_out H
                  by_cases h1457 : t1455 = (t1447.length : Int)
                  · rw [if_pos h1457] at H
                    by_cases h1458 : t1412 < 0
                    · rw [if_pos h1458] at H
                      refine EW.meet (id := 13) (ops := C3.r.r.r.r.l.r.l.l.r.l.l.r.r.r.l.ops) (fun a w => ∃ A1461 : Option Addr, ∃ C1462 : Nat, ∃ A1463 : Option Addr, ∃ C1464 : Nat, Sat 72 [(2, .slice (some ad1398) l12.length C14), (7, .pointer (some ⟨g1012, 0, none⟩)), (8, .pointer (some ⟨g1019, 0, none⟩)), (9, .int .i64 x1177), (53, .pointer (some ⟨g1012, 0, none⟩)), (54, .int .i64 t1455), (55, .pointer (some ⟨g1019, 0, none⟩)), (56, .pointer (some ⟨g1019, 0, none⟩)), (57, .pointer (some ⟨g1019, 0, none⟩)), (58, .slice A1463 t1447.length C1464), (59, .int .i64 (t1447.length : Int)), (60, .bool (false)), (63, .int .i64 t1412), (64, .bool (true)), (71, .bool (true))] a ∧ St B w (Ass.box 89 g1012 [.slice A1413 t1411.length C1414, .func (.func 46) #[.pointer (some ⟨g1013, 0, none⟩)] #[]] :: Ass.own 5 (Kd.int .u8) A1413 C1414 t1411 :: Ass.box 103 g1013 [.int .u64 t1454] :: Ass.box 33 g1019 [.slice A1461 t1447.length C1462, .int .u64 t1448] :: os) (Ro.sl (Kd.int .u8) A1461 C1462 t1447 :: Ro.sl (Kd.int .u8) A1463 C1464 t1447 :: Ro.sl (Kd.int .u8) A1170 C1171 x1169 :: Ro.sl (Kd.int .u8) A1170 C1171 x1169 :: Ro.sl (Kd.int .u8) A1020 C1021 t1017 :: Ro.sl (Kd.int .u8) A9 C10 l8 :: Ro.sl (Kd.int .u8) A9 C10 l8 :: Ro.sl (Kd.int .u8) A9 C10 l8 :: Ro.sl (Kd.int .i64) (some ad1398) C14 l12 :: rs)) (by kernel_rfl) ?_ (fun a w hI => ?_)
                      · have hS := hS.drew
                        refine EW.draw (B := B) (id := 13) (ops := C3.r.r.r.r.l.r.l.l.r.l.l.r.r.r.l.ops) [Ass.box 89 g1012 [.slice A1413 t1411.length C1414, .func (.func 46) #[.pointer (some ⟨g1013, 0, none⟩)] #[]], Ass.own 5 (Kd.int .u8) A1413 C1414 t1411] [Ro.sl (Kd.int .u8) A1170 C1171 x1169, Ro.sl (Kd.int .u8) A1020 C1021 t1017, Ro.sl (Kd.int .u8) A9 C10 l8, Ro.sl (Kd.int .u8) A9 C10 l8, Ro.sl (Kd.int .u8) A9 C10 l8, Ro.sl (Kd.int .i64) (some ad1398) C14 l12] (by kernel_rfl) (by kernel_rfl) ?_
                        have hN : Region.noSelect C3.r.r.r.r.l.r.l.l.r.l.l.r.r.r.l.ops = true := (by kernel_rfl)
                        have hF : freeAll C3.r.r.r.r.l.r.l.l.r.l.l.r.r.r.l.ops = true := (by kernel_rfl)
                        have hC : Core B [Ass.box 89 g1012 [.slice A1413 t1411.length C1414, .func (.func 46) #[.pointer (some ⟨g1013, 0, none⟩)] #[]], Ass.own 5 (Kd.int .u8) A1413 C1414 t1411] [Ro.sl (Kd.int .u8) A1170 C1171 x1169, Ro.sl (Kd.int .u8) A1020 C1021 t1017, Ro.sl (Kd.int .u8) A9 C10 l8, Ro.sl (Kd.int .u8) A9 C10 l8, Ro.sl (Kd.int .u8) A9 C10 l8, Ro.sl (Kd.int .i64) (some ad1398) C14 l12] _ := ⟨_, _, hS.re [2, 2] [] rfl sub_self⟩
                        refine ED.quick hN hF hC [0, 1, 2] [2, 7, 8, 9, 10, 11, 47, 48, 49] 22 [(2, .slice (some ad1398) l12.length C14), (7, .pointer (some ⟨g1012, 0, none⟩)), (8, .pointer (some ⟨g1019, 0, none⟩)), (9, .int .i64 x1177), (10, .int .i64 x1401), (11, .int .i64 t1412), (47, .int .i64 t1412), (48, .pointer (some ⟨g1019, 0, none⟩)), (49, .int .i64 x1401)] #[true, true, true, false, false, false, false, false, false, false, false, false, false, false, false, false, false, false, false, false, false, false, false, false, false] (by kernel_rfl) (by kernel_rfl) ?_
                        have hS : St B _ (Ass.box 33 g1019 [.slice A1170 x1169.length C1171, .int .u64 x1172] :: Ass.box 103 g1013 [.int .u64 t1410] :: Ass.box 89 g1012 [.slice A1413 t1411.length C1414, .func (.func 46) #[.pointer (some ⟨g1013, 0, none⟩)] #[]] :: Ass.own 5 (Kd.int .u8) A1413 C1414 t1411 :: os) (Ro.sl (Kd.int .u8) A1170 C1171 x1169 :: Ro.sl (Kd.int .u8) A1170 C1171 x1169 :: Ro.sl (Kd.int .u8) A1020 C1021 t1017 :: Ro.sl (Kd.int .u8) A9 C10 l8 :: Ro.sl (Kd.int .u8) A9 C10 l8 :: Ro.sl (Kd.int .u8) A9 C10 l8 :: Ro.sl (Kd.int .i64) (some ad1398) C14 l12 :: rs) := hS.re [3] [] rfl (sub_cons 0 rfl sub_self)
                        refine ED.one 3 21 #[true, true, true, true, false, false, false, false, false, false, false, false, false, false, false, false, false, false, false, false, false, false, false, false, false] (by kernel_rfl) (by kernel_rfl) (by kernel_rfl) (EO.callD 17 [.pointer (some ⟨g1019, 0, none⟩), .int .i64 x1401] _ 50 (by kernel_rfl) (by kernel_rfl) (by kernel_rfl) (confidantref15_Picks_Next.calls hc1452 hS) ?_)
                        rintro v w ⟨A1465, C1466, rfl, hS⟩
                        have hC : Core B [Ass.box 89 g1012 [.slice A1413 t1411.length C1414, .func (.func 46) #[.pointer (some ⟨g1013, 0, none⟩)] #[]], Ass.own 5 (Kd.int .u8) A1413 C1414 t1411] [Ro.sl (Kd.int .u8) A1170 C1171 x1169, Ro.sl (Kd.int .u8) A1020 C1021 t1017, Ro.sl (Kd.int .u8) A9 C10 l8, Ro.sl (Kd.int .u8) A9 C10 l8, Ro.sl (Kd.int .u8) A9 C10 l8, Ro.sl (Kd.int .i64) (some ad1398) C14 l12] _ := ⟨_, _, hS.re [3, 3] [] rfl (sub_cons 1 rfl (sub_cons 3 rfl (sub_cons 4 rfl (sub_cons 4 rfl (sub_cons 4 rfl (sub_cons 7 rfl sub_self))))))⟩
                        refine ⟨hC, ?_⟩
                        refine ED.quick hN hF hC [4, 5] [2, 7, 8, 9, 10, 11, 52] 19 [(2, .slice (some ad1398) l12.length C14), (7, .pointer (some ⟨g1012, 0, none⟩)), (8, .pointer (some ⟨g1019, 0, none⟩)), (9, .int .i64 x1177), (10, .int .i64 x1401), (11, .int .i64 t1412), (52, .bool (!(decide (t1412 = t1449))))] #[true, true, true, true, true, true, false, false, false, false, false, false, false, false, false, false, false, false, false, false, false, false, false, false, false] (by kernel_rfl) (by kernel_rfl) ?_
                        refine ED.keep [2, 7, 8, 9, 10, 11, 52] [(2, .slice (some ad1398) l12.length C14), (7, .pointer (some ⟨g1012, 0, none⟩)), (8, .pointer (some ⟨g1019, 0, none⟩)), (9, .int .i64 x1177), (10, .int .i64 x1401), (11, .int .i64 t1412), (52, .bool (!(decide (t1412 = t1449))))] (by kernel_rfl) ?_
                        refine ED.as' [(2, .slice (some ad1398) l12.length C14), (7, .pointer (some ⟨g1012, 0, none⟩)), (8, .pointer (some ⟨g1019, 0, none⟩)), (9, .int .i64 x1177), (10, .int .i64 x1401), (11, .int .i64 t1412), (52, .bool (false))] (by simp only [dec_t h1453, Bool.not_true, Bool.not_false]) ?_
                        refine ED.quick hN hF hC [6, 8, 9, 10] [2, 7, 8, 9, 10, 11, 52, 53, 55, 56, 57] 15 [(2, .slice (some ad1398) l12.length C14), (7, .pointer (some ⟨g1012, 0, none⟩)), (8, .pointer (some ⟨g1019, 0, none⟩)), (9, .int .i64 x1177), (10, .int .i64 x1401), (11, .int .i64 t1412), (52, .bool (false)), (53, .pointer (some ⟨g1012, 0, none⟩)), (55, .pointer (some ⟨g1019, 0, none⟩)), (56, .pointer (some ⟨g1019, 0, none⟩)), (57, .pointer (some ⟨g1019, 0, none⟩))] #[true, true, true, true, true, true, true, false, true, true, true, false, false, false, false, false, false, false, false, false, false, false, false, false, false] (by kernel_rfl) (by kernel_rfl) ?_
                        refine ED.two 7 11 14 (by kernel_rfl) (by kernel_rfl) ?_ ?_
                        · have hS : St B _ (Ass.box 89 g1012 [.slice A1413 t1411.length C1414, .func (.func 46) #[.pointer (some ⟨g1013, 0, none⟩)] #[]] :: Ass.own 5 (Kd.int .u8) A1413 C1414 t1411 :: Ass.box 103 g1013 [.int .u64 t1410] :: Ass.box 33 g1019 [.slice A1465 t1447.length C1466, .int .u64 t1448] :: os) (Ro.sl (Kd.int .u8) A1465 C1466 t1447 :: Ro.sl (Kd.int .u8) A1170 C1171 x1169 :: Ro.sl (Kd.int .u8) A1170 C1171 x1169 :: Ro.sl (Kd.int .u8) A1020 C1021 t1017 :: Ro.sl (Kd.int .u8) A9 C10 l8 :: Ro.sl (Kd.int .u8) A9 C10 l8 :: Ro.sl (Kd.int .u8) A9 C10 l8 :: Ro.sl (Kd.int .i64) (some ad1398) C14 l12 :: rs) := hS.re [1, 3, 3] [] rfl sub_self
                          refine EO.callD 18 [.pointer (some ⟨g1012, 0, none⟩)] _ 54 (by kernel_rfl) (by kernel_rfl) (by kernel_rfl) (picks_Picks_Left.calls hc1456 hS) ?_
                          rintro v w ⟨rfl, hS⟩
                          have hC : Core B [Ass.box 89 g1012 [.slice A1413 t1411.length C1414, .func (.func 46) #[.pointer (some ⟨g1013, 0, none⟩)] #[]], Ass.own 5 (Kd.int .u8) A1413 C1414 t1411] [Ro.sl (Kd.int .u8) A1170 C1171 x1169, Ro.sl (Kd.int .u8) A1020 C1021 t1017, Ro.sl (Kd.int .u8) A9 C10 l8, Ro.sl (Kd.int .u8) A9 C10 l8, Ro.sl (Kd.int .u8) A9 C10 l8, Ro.sl (Kd.int .i64) (some ad1398) C14 l12] _ := ⟨_, _, hS.re [1, 1] [] rfl (sub_cons 1 rfl (sub_cons 3 rfl (sub_cons 4 rfl (sub_cons 4 rfl (sub_cons 4 rfl (sub_cons 7 rfl sub_self))))))⟩
                          refine ⟨hC, ?_⟩
                          refine ED.at' #[true, true, true, true, true, true, true, true, true, true, true, false, false, false, false, false, false, false, false, false, false, false, false, false, false] (by kernel_rfl) ?_
                          refine ED.one 11 13 #[true, true, true, true, true, true, true, true, true, true, true, true, false, false, false, false, false, false, false, false, false, false, false, false, false] (by kernel_rfl) (by kernel_rfl) (by kernel_rfl) (EO.Y (YO.loadBox hS 3 rfl 22 0 1 (.slice A1465 t1447.length C1466) 58 (by kernel_rfl) (by kernel_rfl) (by kernel_rfl) (by kernel_rfl)) ?_)
                          have hC : Core B [Ass.box 89 g1012 [.slice A1413 t1411.length C1414, .func (.func 46) #[.pointer (some ⟨g1013, 0, none⟩)] #[]], Ass.own 5 (Kd.int .u8) A1413 C1414 t1411] [Ro.sl (Kd.int .u8) A1170 C1171 x1169, Ro.sl (Kd.int .u8) A1020 C1021 t1017, Ro.sl (Kd.int .u8) A9 C10 l8, Ro.sl (Kd.int .u8) A9 C10 l8, Ro.sl (Kd.int .u8) A9 C10 l8, Ro.sl (Kd.int .i64) (some ad1398) C14 l12] _ := ⟨_, _, hS.re [1, 1] [] rfl (sub_cons 1 rfl (sub_cons 3 rfl (sub_cons 4 rfl (sub_cons 4 rfl (sub_cons 4 rfl (sub_cons 7 rfl sub_self))))))⟩
                          refine ⟨hC, ?_⟩
                          refine ED.quick hN hF hC [12, 13, 14, 15] [2, 7, 8, 9, 10, 11, 53, 54, 55, 56, 57, 58, 59, 60, 62] 9 [(2, .slice (some ad1398) l12.length C14), (7, .pointer (some ⟨g1012, 0, none⟩)), (8, .pointer (some ⟨g1019, 0, none⟩)), (9, .int .i64 x1177), (10, .int .i64 x1401), (11, .int .i64 t1412), (53, .pointer (some ⟨g1012, 0, none⟩)), (54, .int .i64 t1455), (55, .pointer (some ⟨g1019, 0, none⟩)), (56, .pointer (some ⟨g1019, 0, none⟩)), (57, .pointer (some ⟨g1019, 0, none⟩)), (58, .slice A1465 t1447.length C1466), (59, .int .i64 (t1447.length : Int)), (60, .bool (!(decide (t1455 = (t1447.length : Int))))), (62, .bool (!(decide (t1455 = (t1447.length : Int)))))] #[true, true, true, true, true, true, true, true, true, true, true, true, true, true, true, true, false, false, false, false, false, false, false, false, false] (by kernel_rfl) (by kernel_rfl) ?_
                          refine ED.keep [2, 7, 8, 9, 10, 11, 53, 54, 55, 56, 57, 58, 59, 60, 62] [(2, .slice (some ad1398) l12.length C14), (7, .pointer (some ⟨g1012, 0, none⟩)), (8, .pointer (some ⟨g1019, 0, none⟩)), (9, .int .i64 x1177), (10, .int .i64 x1401), (11, .int .i64 t1412), (53, .pointer (some ⟨g1012, 0, none⟩)), (54, .int .i64 t1455), (55, .pointer (some ⟨g1019, 0, none⟩)), (56, .pointer (some ⟨g1019, 0, none⟩)), (57, .pointer (some ⟨g1019, 0, none⟩)), (58, .slice A1465 t1447.length C1466), (59, .int .i64 (t1447.length : Int)), (60, .bool (!(decide (t1455 = (t1447.length : Int))))), (62, .bool (!(decide (t1455 = (t1447.length : Int)))))] (by kernel_rfl) ?_
                          refine ED.as' [(2, .slice (some ad1398) l12.length C14), (7, .pointer (some ⟨g1012, 0, none⟩)), (8, .pointer (some ⟨g1019, 0, none⟩)), (9, .int .i64 x1177), (10, .int .i64 x1401), (11, .int .i64 t1412), (53, .pointer (some ⟨g1012, 0, none⟩)), (54, .int .i64 t1455), (55, .pointer (some ⟨g1019, 0, none⟩)), (56, .pointer (some ⟨g1019, 0, none⟩)), (57, .pointer (some ⟨g1019, 0, none⟩)), (58, .slice A1465 t1447.length C1466), (59, .int .i64 (t1447.length : Int)), (60, .bool (false)), (62, .bool (false))] (by simp only [dec_t h1457, Bool.not_true, Bool.not_false]) ?_
                          refine ED.quick hN hF hC [16, 17, 18, 19] [2, 7, 8, 9, 10, 11, 53, 54, 55, 56, 57, 58, 59, 60, 63, 64, 66] 5 [(2, .slice (some ad1398) l12.length C14), (7, .pointer (some ⟨g1012, 0, none⟩)), (8, .pointer (some ⟨g1019, 0, none⟩)), (9, .int .i64 x1177), (10, .int .i64 x1401), (11, .int .i64 t1412), (53, .pointer (some ⟨g1012, 0, none⟩)), (54, .int .i64 t1455), (55, .pointer (some ⟨g1019, 0, none⟩)), (56, .pointer (some ⟨g1019, 0, none⟩)), (57, .pointer (some ⟨g1019, 0, none⟩)), (58, .slice A1465 t1447.length C1466), (59, .int .i64 (t1447.length : Int)), (60, .bool (false)), (63, .int .i64 t1412), (64, .bool (decide (t1412 < 0))), (66, .bool (decide (t1412 < 0)))] #[true, true, true, true, true, true, true, true, true, true, true, true, true, true, true, true, true, true, true, true, false, false, false, false, false] (by kernel_rfl) (by kernel_rfl) ?_
                          refine ED.keep [2, 7, 8, 9, 10, 11, 53, 54, 55, 56, 57, 58, 59, 60, 63, 64, 66] [(2, .slice (some ad1398) l12.length C14), (7, .pointer (some ⟨g1012, 0, none⟩)), (8, .pointer (some ⟨g1019, 0, none⟩)), (9, .int .i64 x1177), (10, .int .i64 x1401), (11, .int .i64 t1412), (53, .pointer (some ⟨g1012, 0, none⟩)), (54, .int .i64 t1455), (55, .pointer (some ⟨g1019, 0, none⟩)), (56, .pointer (some ⟨g1019, 0, none⟩)), (57, .pointer (some ⟨g1019, 0, none⟩)), (58, .slice A1465 t1447.length C1466), (59, .int .i64 (t1447.length : Int)), (60, .bool (false)), (63, .int .i64 t1412), (64, .bool (decide (t1412 < 0))), (66, .bool (decide (t1412 < 0)))] (by kernel_rfl) ?_
                          refine ED.as' [(2, .slice (some ad1398) l12.length C14), (7, .pointer (some ⟨g1012, 0, none⟩)), (8, .pointer (some ⟨g1019, 0, none⟩)), (9, .int .i64 x1177), (10, .int .i64 x1401), (11, .int .i64 t1412), (53, .pointer (some ⟨g1012, 0, none⟩)), (54, .int .i64 t1455), (55, .pointer (some ⟨g1019, 0, none⟩)), (56, .pointer (some ⟨g1019, 0, none⟩)), (57, .pointer (some ⟨g1019, 0, none⟩)), (58, .slice A1465 t1447.length C1466), (59, .int .i64 (t1447.length : Int)), (60, .bool (false)), (63, .int .i64 t1412), (64, .bool (true)), (66, .bool (true))] (by simp only [dec_t h1458, Bool.not_true, Bool.not_false]) ?_
                          refine ED.quick hN hF hC [20, 21, 22, 23, 24] [2, 7, 8, 9, 53, 54, 55, 56, 57, 58, 59, 60, 63, 64, 67, 68, 69, 70, 71] 0 [(2, .slice (some ad1398) l12.length C14), (7, .pointer (some ⟨g1012, 0, none⟩)), (8, .pointer (some ⟨g1019, 0, none⟩)), (9, .int .i64 x1177), (53, .pointer (some ⟨g1012, 0, none⟩)), (54, .int .i64 t1455), (55, .pointer (some ⟨g1019, 0, none⟩)), (56, .pointer (some ⟨g1019, 0, none⟩)), (57, .pointer (some ⟨g1019, 0, none⟩)), (58, .slice A1465 t1447.length C1466), (59, .int .i64 (t1447.length : Int)), (60, .bool (false)), (63, .int .i64 t1412), (64, .bool (true)), (67, undef), (68, undef), (69, undef), (70, undef), (71, .bool (true))] #[true, true, true, true, true, true, true, true, true, true, true, true, true, true, true, true, true, true, true, true, true, true, true, true, true] (by kernel_rfl) (by kernel_rfl) ?_
                          refine ED.done (by kernel_rfl) ?_
                          refine EQ.to ?_
                          refine EQ.keep [2, 7, 8, 9, 53, 54, 55, 56, 57, 58, 59, 60, 63, 64, 71] [(2, .slice (some ad1398) l12.length C14), (7, .pointer (some ⟨g1012, 0, none⟩)), (8, .pointer (some ⟨g1019, 0, none⟩)), (9, .int .i64 x1177), (53, .pointer (some ⟨g1012, 0, none⟩)), (54, .int .i64 t1455), (55, .pointer (some ⟨g1019, 0, none⟩)), (56, .pointer (some ⟨g1019, 0, none⟩)), (57, .pointer (some ⟨g1019, 0, none⟩)), (58, .slice A1465 t1447.length C1466), (59, .int .i64 (t1447.length : Int)), (60, .bool (false)), (63, .int .i64 t1412), (64, .bool (true)), (71, .bool (true))] (by kernel_rfl) ?_
                          exact fun a ha => ⟨A1465, C1466, A1465, C1466, ha, (hS.re [3, 3, 3, 3] [] rfl (sub_cons 0 rfl (sub_cons 0 rfl (sub_cons 1 rfl (sub_cons 1 rfl (sub_cons 3 rfl (sub_cons 4 rfl (sub_cons 4 rfl (sub_cons 4 rfl (sub_cons 7 rfl (sub_tail (sub_tail (sub_tail (sub_tail (sub_tail (sub_tail (sub_tail (sub_tail (sub_self)))))))))))))))))))⟩
                        · refine EO.Y (YO.loadBox hS 0 rfl 22 0 1 (.slice A1465 t1447.length C1466) 58 (by kernel_rfl) (by kernel_rfl) (by kernel_rfl) (by kernel_rfl)) ?_
                          have hC : Core B [Ass.box 89 g1012 [.slice A1413 t1411.length C1414, .func (.func 46) #[.pointer (some ⟨g1013, 0, none⟩)] #[]], Ass.own 5 (Kd.int .u8) A1413 C1414 t1411] [Ro.sl (Kd.int .u8) A1170 C1171 x1169, Ro.sl (Kd.int .u8) A1020 C1021 t1017, Ro.sl (Kd.int .u8) A9 C10 l8, Ro.sl (Kd.int .u8) A9 C10 l8, Ro.sl (Kd.int .u8) A9 C10 l8, Ro.sl (Kd.int .i64) (some ad1398) C14 l12] _ := ⟨_, _, hS.re [3, 3] [] rfl (sub_cons 1 rfl (sub_cons 3 rfl (sub_cons 4 rfl (sub_cons 4 rfl (sub_cons 4 rfl (sub_cons 7 rfl sub_self))))))⟩
                          refine ⟨hC, ?_⟩
                          refine ED.at' #[true, true, true, true, true, true, true, false, true, true, true, true, false, false, false, false, false, false, false, false, false, false, false, false, false] (by kernel_rfl) ?_
                          refine ED.quick hN hF hC [12] [2, 7, 8, 9, 10, 11, 52, 53, 55, 56, 57, 58, 59] 13 [(2, .slice (some ad1398) l12.length C14), (7, .pointer (some ⟨g1012, 0, none⟩)), (8, .pointer (some ⟨g1019, 0, none⟩)), (9, .int .i64 x1177), (10, .int .i64 x1401), (11, .int .i64 t1412), (52, .bool (false)), (53, .pointer (some ⟨g1012, 0, none⟩)), (55, .pointer (some ⟨g1019, 0, none⟩)), (56, .pointer (some ⟨g1019, 0, none⟩)), (57, .pointer (some ⟨g1019, 0, none⟩)), (58, .slice A1465 t1447.length C1466), (59, .int .i64 (t1447.length : Int))] #[true, true, true, true, true, true, true, false, true, true, true, true, true, false, false, false, false, false, false, false, false, false, false, false, false] (by kernel_rfl) (by kernel_rfl) ?_
                          have hS : St B _ (Ass.box 89 g1012 [.slice A1413 t1411.length C1414, .func (.func 46) #[.pointer (some ⟨g1013, 0, none⟩)] #[]] :: Ass.own 5 (Kd.int .u8) A1413 C1414 t1411 :: Ass.box 103 g1013 [.int .u64 t1410] :: Ass.box 33 g1019 [.slice A1465 t1447.length C1466, .int .u64 t1448] :: os) (Ro.sl (Kd.int .u8) A1465 C1466 t1447 :: Ro.sl (Kd.int .u8) A1170 C1171 x1169 :: Ro.sl (Kd.int .u8) A1170 C1171 x1169 :: Ro.sl (Kd.int .u8) A1020 C1021 t1017 :: Ro.sl (Kd.int .u8) A9 C10 l8 :: Ro.sl (Kd.int .u8) A9 C10 l8 :: Ro.sl (Kd.int .u8) A9 C10 l8 :: Ro.sl (Kd.int .i64) (some ad1398) C14 l12 :: rs) := hS.re [1, 3, 3] [] rfl sub_self
                          refine ED.one 7 12 #[true, true, true, true, true, true, true, true, true, true, true, true, true, false, false, false, false, false, false, false, false, false, false, false, false] (by kernel_rfl) (by kernel_rfl) (by kernel_rfl) (EO.callD 18 [.pointer (some ⟨g1012, 0, none⟩)] _ 54 (by kernel_rfl) (by kernel_rfl) (by kernel_rfl) (picks_Picks_Left.calls hc1456 hS) ?_)
                          rintro v w ⟨rfl, hS⟩
                          have hC : Core B [Ass.box 89 g1012 [.slice A1413 t1411.length C1414, .func (.func 46) #[.pointer (some ⟨g1013, 0, none⟩)] #[]], Ass.own 5 (Kd.int .u8) A1413 C1414 t1411] [Ro.sl (Kd.int .u8) A1170 C1171 x1169, Ro.sl (Kd.int .u8) A1020 C1021 t1017, Ro.sl (Kd.int .u8) A9 C10 l8, Ro.sl (Kd.int .u8) A9 C10 l8, Ro.sl (Kd.int .u8) A9 C10 l8, Ro.sl (Kd.int .i64) (some ad1398) C14 l12] _ := ⟨_, _, hS.re [1, 1] [] rfl (sub_cons 1 rfl (sub_cons 3 rfl (sub_cons 4 rfl (sub_cons 4 rfl (sub_cons 4 rfl (sub_cons 7 rfl sub_self))))))⟩
                          refine ⟨hC, ?_⟩
                          refine ED.quick hN hF hC [13, 14, 15] [2, 7, 8, 9, 10, 11, 53, 54, 55, 56, 57, 58, 59, 60, 62] 9 [(2, .slice (some ad1398) l12.length C14), (7, .pointer (some ⟨g1012, 0, none⟩)), (8, .pointer (some ⟨g1019, 0, none⟩)), (9, .int .i64 x1177), (10, .int .i64 x1401), (11, .int .i64 t1412), (53, .pointer (some ⟨g1012, 0, none⟩)), (54, .int .i64 t1455), (55, .pointer (some ⟨g1019, 0, none⟩)), (56, .pointer (some ⟨g1019, 0, none⟩)), (57, .pointer (some ⟨g1019, 0, none⟩)), (58, .slice A1465 t1447.length C1466), (59, .int .i64 (t1447.length : Int)), (60, .bool (!(decide (t1455 = (t1447.length : Int))))), (62, .bool (!(decide (t1455 = (t1447.length : Int)))))] #[true, true, true, true, true, true, true, true, true, true, true, true, true, true, true, true, false, false, false, false, false, false, false, false, false] (by kernel_rfl) (by kernel_rfl) ?_
                          refine ED.keep [2, 7, 8, 9, 10, 11, 53, 54, 55, 56, 57, 58, 59, 60, 62] [(2, .slice (some ad1398) l12.length C14), (7, .pointer (some ⟨g1012, 0, none⟩)), (8, .pointer (some ⟨g1019, 0, none⟩)), (9, .int .i64 x1177), (10, .int .i64 x1401), (11, .int .i64 t1412), (53, .pointer (some ⟨g1012, 0, none⟩)), (54, .int .i64 t1455), (55, .pointer (some ⟨g1019, 0, none⟩)), (56, .pointer (some ⟨g1019, 0, none⟩)), (57, .pointer (some ⟨g1019, 0, none⟩)), (58, .slice A1465 t1447.length C1466), (59, .int .i64 (t1447.length : Int)), (60, .bool (!(decide (t1455 = (t1447.length : Int))))), (62, .bool (!(decide (t1455 = (t1447.length : Int)))))] (by kernel_rfl) ?_
                          refine ED.as' [(2, .slice (some ad1398) l12.length C14), (7, .pointer (some ⟨g1012, 0, none⟩)), (8, .pointer (some ⟨g1019, 0, none⟩)), (9, .int .i64 x1177), (10, .int .i64 x1401), (11, .int .i64 t1412), (53, .pointer (some ⟨g1012, 0, none⟩)), (54, .int .i64 t1455), (55, .pointer (some ⟨g1019, 0, none⟩)), (56, .pointer (some ⟨g1019, 0, none⟩)), (57, .pointer (some ⟨g1019, 0, none⟩)), (58, .slice A1465 t1447.length C1466), (59, .int .i64 (t1447.length : Int)), (60, .bool (false)), (62, .bool (false))] (by simp only [dec_t h1457, Bool.not_true, Bool.not_false]) ?_
                          refine ED.quick hN hF hC [16, 17, 18, 19] [2, 7, 8, 9, 10, 11, 53, 54, 55, 56, 57, 58, 59, 60, 63, 64, 66] 5 [(2, .slice (some ad1398) l12.length C14), (7, .pointer (some ⟨g1012, 0, none⟩)), (8, .pointer (some ⟨g1019, 0, none⟩)), (9, .int .i64 x1177), (10, .int .i64 x1401), (11, .int .i64 t1412), (53, .pointer (some ⟨g1012, 0, none⟩)), (54, .int .i64 t1455), (55, .pointer (some ⟨g1019, 0, none⟩)), (56, .pointer (some ⟨g1019, 0, none⟩)), (57, .pointer (some ⟨g1019, 0, none⟩)), (58, .slice A1465 t1447.length C1466), (59, .int .i64 (t1447.length : Int)), (60, .bool (false)), (63, .int .i64 t1412), (64, .bool (decide (t1412 < 0))), (66, .bool (decide (t1412 < 0)))] #[true, true, true, true, true, true, true, true, true, true, true, true, true, true, true, true, true, true, true, true, false, false, false, false, false] (by kernel_rfl) (by kernel_rfl) ?_
                          refine ED.keep [2, 7, 8, 9, 10, 11, 53, 54, 55, 56, 57, 58, 59, 60, 63, 64, 66] [(2, .slice (some ad1398) l12.length C14), (7, .pointer (some ⟨g1012, 0, none⟩)), (8, .pointer (some ⟨g1019, 0, none⟩)), (9, .int .i64 x1177), (10, .int .i64 x1401), (11, .int .i64 t1412), (53, .pointer (some ⟨g1012, 0, none⟩)), (54, .int .i64 t1455), (55, .pointer (some ⟨g1019, 0, none⟩)), (56, .pointer (some ⟨g1019, 0, none⟩)), (57, .pointer (some ⟨g1019, 0, none⟩)), (58, .slice A1465 t1447.length C1466), (59, .int .i64 (t1447.length : Int)), (60, .bool (false)), (63, .int .i64 t1412), (64, .bool (decide (t1412 < 0))), (66, .bool (decide (t1412 < 0)))] (by kernel_rfl) ?_
                          refine ED.as' [(2, .slice (some ad1398) l12.length C14), (7, .pointer (some ⟨g1012, 0, none⟩)), (8, .pointer (some ⟨g1019, 0, none⟩)), (9, .int .i64 x1177), (10, .int .i64 x1401), (11, .int .i64 t1412), (53, .pointer (some ⟨g1012, 0, none⟩)), (54, .int .i64 t1455), (55, .pointer (some ⟨g1019, 0, none⟩)), (56, .pointer (some ⟨g1019, 0, none⟩)), (57, .pointer (some ⟨g1019, 0, none⟩)), (58, .slice A1465 t1447.length C1466), (59, .int .i64 (t1447.length : Int)), (60, .bool (false)), (63, .int .i64 t1412), (64, .bool (true)), (66, .bool (true))] (by simp only [dec_t h1458, Bool.not_true, Bool.not_false]) ?_
                          refine ED.quick hN hF hC [20, 21, 22, 23, 24] [2, 7, 8, 9, 53, 54, 55, 56, 57, 58, 59, 60, 63, 64, 67, 68, 69, 70, 71] 0 [(2, .slice (some ad1398) l12.length C14), (7, .pointer (some ⟨g1012, 0, none⟩)), (8, .pointer (some ⟨g1019, 0, none⟩)), (9, .int .i64 x1177), (53, .pointer (some ⟨g1012, 0, none⟩)), (54, .int .i64 t1455), (55, .pointer (some ⟨g1019, 0, none⟩)), (56, .pointer (some ⟨g1019, 0, none⟩)), (57, .pointer (some ⟨g1019, 0, none⟩)), (58, .slice A1465 t1447.length C1466), (59, .int .i64 (t1447.length : Int)), (60, .bool (false)), (63, .int .i64 t1412), (64, .bool (true)), (67, undef), (68, undef), (69, undef), (70, undef), (71, .bool (true))] #[true, true, true, true, true, true, true, true, true, true, true, true, true, true, true, true, true, true, true, true, true, true, true, true, true] (by kernel_rfl) (by kernel_rfl) ?_
                          refine ED.done (by kernel_rfl) ?_
                          refine EQ.to ?_
                          refine EQ.keep [2, 7, 8, 9, 53, 54, 55, 56, 57, 58, 59, 60, 63, 64, 71] [(2, .slice (some ad1398) l12.length C14), (7, .pointer (some ⟨g1012, 0, none⟩)), (8, .pointer (some ⟨g1019, 0, none⟩)), (9, .int .i64 x1177), (53, .pointer (some ⟨g1012, 0, none⟩)), (54, .int .i64 t1455), (55, .pointer (some ⟨g1019, 0, none⟩)), (56, .pointer (some ⟨g1019, 0, none⟩)), (57, .pointer (some ⟨g1019, 0, none⟩)), (58, .slice A1465 t1447.length C1466), (59, .int .i64 (t1447.length : Int)), (60, .bool (false)), (63, .int .i64 t1412), (64, .bool (true)), (71, .bool (true))] (by kernel_rfl) ?_
                          exact fun a ha => ⟨A1465, C1466, A1465, C1466, ha, (hS.re [3, 3, 3, 3] [] rfl (sub_cons 0 rfl (sub_cons 0 rfl (sub_cons 1 rfl (sub_cons 1 rfl (sub_cons 3 rfl (sub_cons 4 rfl (sub_cons 4 rfl (sub_cons 4 rfl (sub_cons 7 rfl (sub_tail (sub_tail (sub_tail (sub_tail (sub_tail (sub_tail (sub_tail (sub_tail (sub_self)))))))))))))))))))⟩
                      · obtain ⟨A1461, C1462, A1463, C1464, ha, hS⟩ := hI
                        refine EQ.at ?_ a ha
                        clear ha a
                        refine EQ.to ?_
                        refine EQ.keep [2, 7, 8, 9, 71] [(2, .slice (some ad1398) l12.length C14), (7, .pointer (some ⟨g1012, 0, none⟩)), (8, .pointer (some ⟨g1019, 0, none⟩)), (9, .int .i64 x1177), (71, .bool (true))] (by kernel_rfl) ?_
                        exact fun a ha => ⟨t1454, t1447, t1448, true, A1461, C1462, ha, (hS.re [3, 3, 3, 3] [] rfl (sub_cons 0 rfl (sub_cons 2 rfl (sub_cons 2 rfl (sub_cons 4 rfl (sub_cons 5 rfl (sub_cons 5 rfl (sub_cons 5 rfl (sub_cons 8 rfl (sub_tail (sub_tail (sub_tail (sub_tail (sub_tail (sub_tail (sub_tail (sub_tail (sub_tail (sub_self))))))))))))))))))), H⟩
                    · rw [if_neg h1458] at H
                      refine EW.meet (id := 13) (ops := C3.r.r.r.r.l.r.l.l.r.l.l.r.r.r.l.ops) (fun a w => ∃ A1469 : Option Addr, ∃ C1470 : Nat, ∃ A1471 : Option Addr, ∃ C1472 : Nat, Sat 72 [(2, .slice (some ad1398) l12.length C14), (7, .pointer (some ⟨g1012, 0, none⟩)), (8, .pointer (some ⟨g1019, 0, none⟩)), (9, .int .i64 x1177), (53, .pointer (some ⟨g1012, 0, none⟩)), (54, .int .i64 t1455), (55, .pointer (some ⟨g1019, 0, none⟩)), (56, .pointer (some ⟨g1019, 0, none⟩)), (57, .pointer (some ⟨g1019, 0, none⟩)), (58, .slice A1471 t1447.length C1472), (59, .int .i64 (t1447.length : Int)), (60, .bool (false)), (63, .int .i64 t1412), (64, .bool (false)), (67, .int .i64 t1412), (68, .int .i64 x1401), (69, .int .i64 (mx x1401 1)), (70, .bool (decide (t1412 ≥ (mx x1401 1)))), (71, .bool (decide (t1412 ≥ (mx x1401 1))))] a ∧ St B w (Ass.box 89 g1012 [.slice A1413 t1411.length C1414, .func (.func 46) #[.pointer (some ⟨g1013, 0, none⟩)] #[]] :: Ass.own 5 (Kd.int .u8) A1413 C1414 t1411 :: Ass.box 103 g1013 [.int .u64 t1454] :: Ass.box 33 g1019 [.slice A1469 t1447.length C1470, .int .u64 t1448] :: os) (Ro.sl (Kd.int .u8) A1469 C1470 t1447 :: Ro.sl (Kd.int .u8) A1471 C1472 t1447 :: Ro.sl (Kd.int .u8) A1170 C1171 x1169 :: Ro.sl (Kd.int .u8) A1170 C1171 x1169 :: Ro.sl (Kd.int .u8) A1020 C1021 t1017 :: Ro.sl (Kd.int .u8) A9 C10 l8 :: Ro.sl (Kd.int .u8) A9 C10 l8 :: Ro.sl (Kd.int .u8) A9 C10 l8 :: Ro.sl (Kd.int .i64) (some ad1398) C14 l12 :: rs)) (by kernel_rfl) ?_ (fun a w hI => ?_)
                      · have hS := hS.drew
                        refine EW.draw (B := B) (id := 13) (ops := C3.r.r.r.r.l.r.l.l.r.l.l.r.r.r.l.ops) [Ass.box 89 g1012 [.slice A1413 t1411.length C1414, .func (.func 46) #[.pointer (some ⟨g1013, 0, none⟩)] #[]], Ass.own 5 (Kd.int .u8) A1413 C1414 t1411] [Ro.sl (Kd.int .u8) A1170 C1171 x1169, Ro.sl (Kd.int .u8) A1020 C1021 t1017, Ro.sl (Kd.int .u8) A9 C10 l8, Ro.sl (Kd.int .u8) A9 C10 l8, Ro.sl (Kd.int .u8) A9 C10 l8, Ro.sl (Kd.int .i64) (some ad1398) C14 l12] (by kernel_rfl) (by kernel_rfl) ?_
                        have hN : Region.noSelect C3.r.r.r.r.l.r.l.l.r.l.l.r.r.r.l.ops = true := (by kernel_rfl)
                        have hF : freeAll C3.r.r.r.r.l.r.l.l.r.l.l.r.r.r.l.ops = true := (by kernel_rfl)
                        have hC : Core B [Ass.box 89 g1012 [.slice A1413 t1411.length C1414, .func (.func 46) #[.pointer (some ⟨g1013, 0, none⟩)] #[]], Ass.own 5 (Kd.int .u8) A1413 C1414 t1411] [Ro.sl (Kd.int .u8) A1170 C1171 x1169, Ro.sl (Kd.int .u8) A1020 C1021 t1017, Ro.sl (Kd.int .u8) A9 C10 l8, Ro.sl (Kd.int .u8) A9 C10 l8, Ro.sl (Kd.int .u8) A9 C10 l8, Ro.sl (Kd.int .i64) (some ad1398) C14 l12] _ := ⟨_, _, hS.re [2, 2] [] rfl sub_self⟩
                        refine ED.quick hN hF hC [0, 1, 2] [2, 7, 8, 9, 10, 11, 47, 48, 49] 22 [(2, .slice (some ad1398) l12.length C14), (7, .pointer (some ⟨g1012, 0, none⟩)), (8, .pointer (some ⟨g1019, 0, none⟩)), (9, .int .i64 x1177), (10, .int .i64 x1401), (11, .int .i64 t1412), (47, .int .i64 t1412), (48, .pointer (some ⟨g1019, 0, none⟩)), (49, .int .i64 x1401)] #[true, true, true, false, false, false, false, false, false, false, false, false, false, false, false, false, false, false, false, false, false, false, false, false, false] (by kernel_rfl) (by kernel_rfl) ?_
                        have hS : St B _ (Ass.box 33 g1019 [.slice A1170 x1169.length C1171, .int .u64 x1172] :: Ass.box 103 g1013 [.int .u64 t1410] :: Ass.box 89 g1012 [.slice A1413 t1411.length C1414, .func (.func 46) #[.pointer (some ⟨g1013, 0, none⟩)] #[]] :: Ass.own 5 (Kd.int .u8) A1413 C1414 t1411 :: os) (Ro.sl (Kd.int .u8) A1170 C1171 x1169 :: Ro.sl (Kd.int .u8) A1170 C1171 x1169 :: Ro.sl (Kd.int .u8) A1020 C1021 t1017 :: Ro.sl (Kd.int .u8) A9 C10 l8 :: Ro.sl (Kd.int .u8) A9 C10 l8 :: Ro.sl (Kd.int .u8) A9 C10 l8 :: Ro.sl (Kd.int .i64) (some ad1398) C14 l12 :: rs) := hS.re [3] [] rfl (sub_cons 0 rfl sub_self)
                        refine ED.one 3 21 #[true, true, true, true, false, false, false, false, false, false, false, false, false, false, false, false, false, false, false, false, false, false, false, false, false] (by kernel_rfl) (by kernel_rfl) (by kernel_rfl) (EO.callD 17 [.pointer (some ⟨g1019, 0, none⟩), .int .i64 x1401] _ 50 (by kernel_rfl) (by kernel_rfl) (by kernel_rfl) (confidantref15_Picks_Next.calls hc1452 hS) ?_)
                        rintro v w ⟨A1473, C1474, rfl, hS⟩
                        have hC : Core B [Ass.box 89 g1012 [.slice A1413 t1411.length C1414, .func (.func 46) #[.pointer (some ⟨g1013, 0, none⟩)] #[]], Ass.own 5 (Kd.int .u8) A1413 C1414 t1411] [Ro.sl (Kd.int .u8) A1170 C1171 x1169, Ro.sl (Kd.int .u8) A1020 C1021 t1017, Ro.sl (Kd.int .u8) A9 C10 l8, Ro.sl (Kd.int .u8) A9 C10 l8, Ro.sl (Kd.int .u8) A9 C10 l8, Ro.sl (Kd.int .i64) (some ad1398) C14 l12] _ := ⟨_, _, hS.re [3, 3] [] rfl (sub_cons 1 rfl (sub_cons 3 rfl (sub_cons 4 rfl (sub_cons 4 rfl (sub_cons 4 rfl (sub_cons 7 rfl sub_self))))))⟩
                        refine ⟨hC, ?_⟩
                        refine ED.quick hN hF hC [4, 5] [2, 7, 8, 9, 10, 11, 52] 19 [(2, .slice (some ad1398) l12.length C14), (7, .pointer (some ⟨g1012, 0, none⟩)), (8, .pointer (some ⟨g1019, 0, none⟩)), (9, .int .i64 x1177), (10, .int .i64 x1401), (11, .int .i64 t1412), (52, .bool (!(decide (t1412 = t1449))))] #[true, true, true, true, true, true, false, false, false, false, false, false, false, false, false, false, false, false, false, false, false, false, false, false, false] (by kernel_rfl) (by kernel_rfl) ?_
                        refine ED.keep [2, 7, 8, 9, 10, 11, 52] [(2, .slice (some ad1398) l12.length C14), (7, .pointer (some ⟨g1012, 0, none⟩)), (8, .pointer (some ⟨g1019, 0, none⟩)), (9, .int .i64 x1177), (10, .int .i64 x1401), (11, .int .i64 t1412), (52, .bool (!(decide (t1412 = t1449))))] (by kernel_rfl) ?_
                        refine ED.as' [(2, .slice (some ad1398) l12.length C14), (7, .pointer (some ⟨g1012, 0, none⟩)), (8, .pointer (some ⟨g1019, 0, none⟩)), (9, .int .i64 x1177), (10, .int .i64 x1401), (11, .int .i64 t1412), (52, .bool (false))] (by simp only [dec_t h1453, Bool.not_true, Bool.not_false]) ?_
                        refine ED.quick hN hF hC [6, 8, 9, 10] [2, 7, 8, 9, 10, 11, 52, 53, 55, 56, 57] 15 [(2, .slice (some ad1398) l12.length C14), (7, .pointer (some ⟨g1012, 0, none⟩)), (8, .pointer (some ⟨g1019, 0, none⟩)), (9, .int .i64 x1177), (10, .int .i64 x1401), (11, .int .i64 t1412), (52, .bool (false)), (53, .pointer (some ⟨g1012, 0, none⟩)), (55, .pointer (some ⟨g1019, 0, none⟩)), (56, .pointer (some ⟨g1019, 0, none⟩)), (57, .pointer (some ⟨g1019, 0, none⟩))] #[true, true, true, true, true, true, true, false, true, true, true, false, false, false, false, false, false, false, false, false, false, false, false, false, false] (by kernel_rfl) (by kernel_rfl) ?_
                        refine ED.two 7 11 14 (by kernel_rfl) (by kernel_rfl) ?_ ?_
                        · have hS : St B _ (Ass.box 89 g1012 [.slice A1413 t1411.length C1414, .func (.func 46) #[.pointer (some ⟨g1013, 0, none⟩)] #[]] :: Ass.own 5 (Kd.int .u8) A1413 C1414 t1411 :: Ass.box 103 g1013 [.int .u64 t1410] :: Ass.box 33 g1019 [.slice A1473 t1447.length C1474, .int .u64 t1448] :: os) (Ro.sl (Kd.int .u8) A1473 C1474 t1447 :: Ro.sl (Kd.int .u8) A1170 C1171 x1169 :: Ro.sl (Kd.int .u8) A1170 C1171 x1169 :: Ro.sl (Kd.int .u8) A1020 C1021 t1017 :: Ro.sl (Kd.int .u8) A9 C10 l8 :: Ro.sl (Kd.int .u8) A9 C10 l8 :: Ro.sl (Kd.int .u8) A9 C10 l8 :: Ro.sl (Kd.int .i64) (some ad1398) C14 l12 :: rs) := hS.re [1, 3, 3] [] rfl sub_self
                          refine EO.callD 18 [.pointer (some ⟨g1012, 0, none⟩)] _ 54 (by kernel_rfl) (by kernel_rfl) (by kernel_rfl) (picks_Picks_Left.calls hc1456 hS) ?_
                          rintro v w ⟨rfl, hS⟩
                          have hC : Core B [Ass.box 89 g1012 [.slice A1413 t1411.length C1414, .func (.func 46) #[.pointer (some ⟨g1013, 0, none⟩)] #[]], Ass.own 5 (Kd.int .u8) A1413 C1414 t1411] [Ro.sl (Kd.int .u8) A1170 C1171 x1169, Ro.sl (Kd.int .u8) A1020 C1021 t1017, Ro.sl (Kd.int .u8) A9 C10 l8, Ro.sl (Kd.int .u8) A9 C10 l8, Ro.sl (Kd.int .u8) A9 C10 l8, Ro.sl (Kd.int .i64) (some ad1398) C14 l12] _ := ⟨_, _, hS.re [1, 1] [] rfl (sub_cons 1 rfl (sub_cons 3 rfl (sub_cons 4 rfl (sub_cons 4 rfl (sub_cons 4 rfl (sub_cons 7 rfl sub_self))))))⟩
                          refine ⟨hC, ?_⟩
                          refine ED.at' #[true, true, true, true, true, true, true, true, true, true, true, false, false, false, false, false, false, false, false, false, false, false, false, false, false] (by kernel_rfl) ?_
                          refine ED.one 11 13 #[true, true, true, true, true, true, true, true, true, true, true, true, false, false, false, false, false, false, false, false, false, false, false, false, false] (by kernel_rfl) (by kernel_rfl) (by kernel_rfl) (EO.Y (YO.loadBox hS 3 rfl 22 0 1 (.slice A1473 t1447.length C1474) 58 (by kernel_rfl) (by kernel_rfl) (by kernel_rfl) (by kernel_rfl)) ?_)
                          have hC : Core B [Ass.box 89 g1012 [.slice A1413 t1411.length C1414, .func (.func 46) #[.pointer (some ⟨g1013, 0, none⟩)] #[]], Ass.own 5 (Kd.int .u8) A1413 C1414 t1411] [Ro.sl (Kd.int .u8) A1170 C1171 x1169, Ro.sl (Kd.int .u8) A1020 C1021 t1017, Ro.sl (Kd.int .u8) A9 C10 l8, Ro.sl (Kd.int .u8) A9 C10 l8, Ro.sl (Kd.int .u8) A9 C10 l8, Ro.sl (Kd.int .i64) (some ad1398) C14 l12] _ := ⟨_, _, hS.re [1, 1] [] rfl (sub_cons 1 rfl (sub_cons 3 rfl (sub_cons 4 rfl (sub_cons 4 rfl (sub_cons 4 rfl (sub_cons 7 rfl sub_self))))))⟩
                          refine ⟨hC, ?_⟩
                          refine ED.quick hN hF hC [12, 13, 14, 15] [2, 7, 8, 9, 10, 11, 53, 54, 55, 56, 57, 58, 59, 60, 62] 9 [(2, .slice (some ad1398) l12.length C14), (7, .pointer (some ⟨g1012, 0, none⟩)), (8, .pointer (some ⟨g1019, 0, none⟩)), (9, .int .i64 x1177), (10, .int .i64 x1401), (11, .int .i64 t1412), (53, .pointer (some ⟨g1012, 0, none⟩)), (54, .int .i64 t1455), (55, .pointer (some ⟨g1019, 0, none⟩)), (56, .pointer (some ⟨g1019, 0, none⟩)), (57, .pointer (some ⟨g1019, 0, none⟩)), (58, .slice A1473 t1447.length C1474), (59, .int .i64 (t1447.length : Int)), (60, .bool (!(decide (t1455 = (t1447.length : Int))))), (62, .bool (!(decide (t1455 = (t1447.length : Int)))))] #[true, true, true, true, true, true, true, true, true, true, true, true, true, true, true, true, false, false, false, false, false, false, false, false, false] (by kernel_rfl) (by kernel_rfl) ?_
                          refine ED.keep [2, 7, 8, 9, 10, 11, 53, 54, 55, 56, 57, 58, 59, 60, 62] [(2, .slice (some ad1398) l12.length C14), (7, .pointer (some ⟨g1012, 0, none⟩)), (8, .pointer (some ⟨g1019, 0, none⟩)), (9, .int .i64 x1177), (10, .int .i64 x1401), (11, .int .i64 t1412), (53, .pointer (some ⟨g1012, 0, none⟩)), (54, .int .i64 t1455), (55, .pointer (some ⟨g1019, 0, none⟩)), (56, .pointer (some ⟨g1019, 0, none⟩)), (57, .pointer (some ⟨g1019, 0, none⟩)), (58, .slice A1473 t1447.length C1474), (59, .int .i64 (t1447.length : Int)), (60, .bool (!(decide (t1455 = (t1447.length : Int))))), (62, .bool (!(decide (t1455 = (t1447.length : Int)))))] (by kernel_rfl) ?_
                          refine ED.as' [(2, .slice (some ad1398) l12.length C14), (7, .pointer (some ⟨g1012, 0, none⟩)), (8, .pointer (some ⟨g1019, 0, none⟩)), (9, .int .i64 x1177), (10, .int .i64 x1401), (11, .int .i64 t1412), (53, .pointer (some ⟨g1012, 0, none⟩)), (54, .int .i64 t1455), (55, .pointer (some ⟨g1019, 0, none⟩)), (56, .pointer (some ⟨g1019, 0, none⟩)), (57, .pointer (some ⟨g1019, 0, none⟩)), (58, .slice A1473 t1447.length C1474), (59, .int .i64 (t1447.length : Int)), (60, .bool (false)), (62, .bool (false))] (by simp only [dec_t h1457, Bool.not_true, Bool.not_false]) ?_
                          refine ED.quick hN hF hC [16, 17, 18, 19] [2, 7, 8, 9, 10, 11, 53, 54, 55, 56, 57, 58, 59, 60, 63, 64, 66] 5 [(2, .slice (some ad1398) l12.length C14), (7, .pointer (some ⟨g1012, 0, none⟩)), (8, .pointer (some ⟨g1019, 0, none⟩)), (9, .int .i64 x1177), (10, .int .i64 x1401), (11, .int .i64 t1412), (53, .pointer (some ⟨g1012, 0, none⟩)), (54, .int .i64 t1455), (55, .pointer (some ⟨g1019, 0, none⟩)), (56, .pointer (some ⟨g1019, 0, none⟩)), (57, .pointer (some ⟨g1019, 0, none⟩)), (58, .slice A1473 t1447.length C1474), (59, .int .i64 (t1447.length : Int)), (60, .bool (false)), (63, .int .i64 t1412), (64, .bool (decide (t1412 < 0))), (66, .bool (decide (t1412 < 0)))] #[true, true, true, true, true, true, true, true, true, true, true, true, true, true, true, true, true, true, true, true, false, false, false, false, false] (by kernel_rfl) (by kernel_rfl) ?_
                          refine ED.keep [2, 7, 8, 9, 10, 11, 53, 54, 55, 56, 57, 58, 59, 60, 63, 64, 66] [(2, .slice (some ad1398) l12.length C14), (7, .pointer (some ⟨g1012, 0, none⟩)), (8, .pointer (some ⟨g1019, 0, none⟩)), (9, .int .i64 x1177), (10, .int .i64 x1401), (11, .int .i64 t1412), (53, .pointer (some ⟨g1012, 0, none⟩)), (54, .int .i64 t1455), (55, .pointer (some ⟨g1019, 0, none⟩)), (56, .pointer (some ⟨g1019, 0, none⟩)), (57, .pointer (some ⟨g1019, 0, none⟩)), (58, .slice A1473 t1447.length C1474), (59, .int .i64 (t1447.length : Int)), (60, .bool (false)), (63, .int .i64 t1412), (64, .bool (decide (t1412 < 0))), (66, .bool (decide (t1412 < 0)))] (by kernel_rfl) ?_
                          refine ED.as' [(2, .slice (some ad1398) l12.length C14), (7, .pointer (some ⟨g1012, 0, none⟩)), (8, .pointer (some ⟨g1019, 0, none⟩)), (9, .int .i64 x1177), (10, .int .i64 x1401), (11, .int .i64 t1412), (53, .pointer (some ⟨g1012, 0, none⟩)), (54, .int .i64 t1455), (55, .pointer (some ⟨g1019, 0, none⟩)), (56, .pointer (some ⟨g1019, 0, none⟩)), (57, .pointer (some ⟨g1019, 0, none⟩)), (58, .slice A1473 t1447.length C1474), (59, .int .i64 (t1447.length : Int)), (60, .bool (false)), (63, .int .i64 t1412), (64, .bool (false)), (66, .bool (false))] (by simp only [dec_f h1458, Bool.not_true, Bool.not_false]) ?_
                          refine ED.quick hN hF hC [20, 21, 22, 23, 24] [2, 7, 8, 9, 53, 54, 55, 56, 57, 58, 59, 60, 63, 64, 67, 68, 69, 70, 71] 0 [(2, .slice (some ad1398) l12.length C14), (7, .pointer (some ⟨g1012, 0, none⟩)), (8, .pointer (some ⟨g1019, 0, none⟩)), (9, .int .i64 x1177), (53, .pointer (some ⟨g1012, 0, none⟩)), (54, .int .i64 t1455), (55, .pointer (some ⟨g1019, 0, none⟩)), (56, .pointer (some ⟨g1019, 0, none⟩)), (57, .pointer (some ⟨g1019, 0, none⟩)), (58, .slice A1473 t1447.length C1474), (59, .int .i64 (t1447.length : Int)), (60, .bool (false)), (63, .int .i64 t1412), (64, .bool (false)), (67, .int .i64 t1412), (68, .int .i64 x1401), (69, .int .i64 (mx x1401 1)), (70, .bool (decide (t1412 ≥ (mx x1401 1)))), (71, .bool (decide (t1412 ≥ (mx x1401 1))))] #[true, true, true, true, true, true, true, true, true, true, true, true, true, true, true, true, true, true, true, true, true, true, true, true, true] (by kernel_rfl) (by kernel_rfl) ?_
                          refine ED.done (by kernel_rfl) ?_
                          refine EQ.to ?_
                          refine EQ.keep [2, 7, 8, 9, 53, 54, 55, 56, 57, 58, 59, 60, 63, 64, 67, 68, 69, 70, 71] [(2, .slice (some ad1398) l12.length C14), (7, .pointer (some ⟨g1012, 0, none⟩)), (8, .pointer (some ⟨g1019, 0, none⟩)), (9, .int .i64 x1177), (53, .pointer (some ⟨g1012, 0, none⟩)), (54, .int .i64 t1455), (55, .pointer (some ⟨g1019, 0, none⟩)), (56, .pointer (some ⟨g1019, 0, none⟩)), (57, .pointer (some ⟨g1019, 0, none⟩)), (58, .slice A1473 t1447.length C1474), (59, .int .i64 (t1447.length : Int)), (60, .bool (false)), (63, .int .i64 t1412), (64, .bool (false)), (67, .int .i64 t1412), (68, .int .i64 x1401), (69, .int .i64 (mx x1401 1)), (70, .bool (decide (t1412 ≥ (mx x1401 1)))), (71, .bool (decide (t1412 ≥ (mx x1401 1))))] (by kernel_rfl) ?_
                          exact fun a ha => ⟨A1473, C1474, A1473, C1474, ha, (hS.re [3, 3, 3, 3] [] rfl (sub_cons 0 rfl (sub_cons 0 rfl (sub_cons 1 rfl (sub_cons 1 rfl (sub_cons 3 rfl (sub_cons 4 rfl (sub_cons 4 rfl (sub_cons 4 rfl (sub_cons 7 rfl (sub_tail (sub_tail (sub_tail (sub_tail (sub_tail (sub_tail (sub_tail (sub_tail (sub_self)))))))))))))))))))⟩
                        · refine EO.Y (YO.loadBox hS 0 rfl 22 0 1 (.slice A1473 t1447.length C1474) 58 (by kernel_rfl) (by kernel_rfl) (by kernel_rfl) (by kernel_rfl)) ?_
                          have hC : Core B [Ass.box 89 g1012 [.slice A1413 t1411.length C1414, .func (.func 46) #[.pointer (some ⟨g1013, 0, none⟩)] #[]], Ass.own 5 (Kd.int .u8) A1413 C1414 t1411] [Ro.sl (Kd.int .u8) A1170 C1171 x1169, Ro.sl (Kd.int .u8) A1020 C1021 t1017, Ro.sl (Kd.int .u8) A9 C10 l8, Ro.sl (Kd.int .u8) A9 C10 l8, Ro.sl (Kd.int .u8) A9 C10 l8, Ro.sl (Kd.int .i64) (some ad1398) C14 l12] _ := ⟨_, _, hS.re [3, 3] [] rfl (sub_cons 1 rfl (sub_cons 3 rfl (sub_cons 4 rfl (sub_cons 4 rfl (sub_cons 4 rfl (sub_cons 7 rfl sub_self))))))⟩
                          refine ⟨hC, ?_⟩
                          refine ED.at' #[true, true, true, true, true, true, true, false, true, true, true, true, false, false, false, false, false, false, false, false, false, false, false, false, false] (by kernel_rfl) ?_
                          refine ED.quick hN hF hC [12] [2, 7, 8, 9, 10, 11, 52, 53, 55, 56, 57, 58, 59] 13 [(2, .slice (some ad1398) l12.length C14), (7, .pointer (some ⟨g1012, 0, none⟩)), (8, .pointer (some ⟨g1019, 0, none⟩)), (9, .int .i64 x1177), (10, .int .i64 x1401), (11, .int .i64 t1412), (52, .bool (false)), (53, .pointer (some ⟨g1012, 0, none⟩)), (55, .pointer (some ⟨g1019, 0, none⟩)), (56, .pointer (some ⟨g1019, 0, none⟩)), (57, .pointer (some ⟨g1019, 0, none⟩)), (58, .slice A1473 t1447.length C1474), (59, .int .i64 (t1447.length : Int))] #[true, true, true, true, true, true, true, false, true, true, true, true, true, false, false, false, false, false, false, false, false, false, false, false, false] (by kernel_rfl) (by kernel_rfl) ?_
                          have hS : St B _ (Ass.box 89 g1012 [.slice A1413 t1411.length C1414, .func (.func 46) #[.pointer (some ⟨g1013, 0, none⟩)] #[]] :: Ass.own 5 (Kd.int .u8) A1413 C1414 t1411 :: Ass.box 103 g1013 [.int .u64 t1410] :: Ass.box 33 g1019 [.slice A1473 t1447.length C1474, .int .u64 t1448] :: os) (Ro.sl (Kd.int .u8) A1473 C1474 t1447 :: Ro.sl (Kd.int .u8) A1170 C1171 x1169 :: Ro.sl (Kd.int .u8) A1170 C1171 x1169 :: Ro.sl (Kd.int .u8) A1020 C1021 t1017 :: Ro.sl (Kd.int .u8) A9 C10 l8 :: Ro.sl (Kd.int .u8) A9 C10 l8 :: Ro.sl (Kd.int .u8) A9 C10 l8 :: Ro.sl (Kd.int .i64) (some ad1398) C14 l12 :: rs) := hS.re [1, 3, 3] [] rfl sub_self
                          refine ED.one 7 12 #[true, true, true, true, true, true, true, true, true, true, true, true, true, false, false, false, false, false, false, false, false, false, false, false, false] (by kernel_rfl) (by kernel_rfl) (by kernel_rfl) (EO.callD 18 [.pointer (some ⟨g1012, 0, none⟩)] _ 54 (by kernel_rfl) (by kernel_rfl) (by kernel_rfl) (picks_Picks_Left.calls hc1456 hS) ?_)
                          rintro v w ⟨rfl, hS⟩
                          have hC : Core B [Ass.box 89 g1012 [.slice A1413 t1411.length C1414, .func (.func 46) #[.pointer (some ⟨g1013, 0, none⟩)] #[]], Ass.own 5 (Kd.int .u8) A1413 C1414 t1411] [Ro.sl (Kd.int .u8) A1170 C1171 x1169, Ro.sl (Kd.int .u8) A1020 C1021 t1017, Ro.sl (Kd.int .u8) A9 C10 l8, Ro.sl (Kd.int .u8) A9 C10 l8, Ro.sl (Kd.int .u8) A9 C10 l8, Ro.sl (Kd.int .i64) (some ad1398) C14 l12] _ := ⟨_, _, hS.re [1, 1] [] rfl (sub_cons 1 rfl (sub_cons 3 rfl (sub_cons 4 rfl (sub_cons 4 rfl (sub_cons 4 rfl (sub_cons 7 rfl sub_self))))))⟩
                          refine ⟨hC, ?_⟩
                          refine ED.quick hN hF hC [13, 14, 15] [2, 7, 8, 9, 10, 11, 53, 54, 55, 56, 57, 58, 59, 60, 62] 9 [(2, .slice (some ad1398) l12.length C14), (7, .pointer (some ⟨g1012, 0, none⟩)), (8, .pointer (some ⟨g1019, 0, none⟩)), (9, .int .i64 x1177), (10, .int .i64 x1401), (11, .int .i64 t1412), (53, .pointer (some ⟨g1012, 0, none⟩)), (54, .int .i64 t1455), (55, .pointer (some ⟨g1019, 0, none⟩)), (56, .pointer (some ⟨g1019, 0, none⟩)), (57, .pointer (some ⟨g1019, 0, none⟩)), (58, .slice A1473 t1447.length C1474), (59, .int .i64 (t1447.length : Int)), (60, .bool (!(decide (t1455 = (t1447.length : Int))))), (62, .bool (!(decide (t1455 = (t1447.length : Int)))))] #[true, true, true, true, true, true, true, true, true, true, true, true, true, true, true, true, false, false, false, false, false, false, false, false, false] (by kernel_rfl) (by kernel_rfl) ?_
                          refine ED.keep [2, 7, 8, 9, 10, 11, 53, 54, 55, 56, 57, 58, 59, 60, 62] [(2, .slice (some ad1398) l12.length C14), (7, .pointer (some ⟨g1012, 0, none⟩)), (8, .pointer (some ⟨g1019, 0, none⟩)), (9, .int .i64 x1177), (10, .int .i64 x1401), (11, .int .i64 t1412), (53, .pointer (some ⟨g1012, 0, none⟩)), (54, .int .i64 t1455), (55, .pointer (some ⟨g1019, 0, none⟩)), (56, .pointer (some ⟨g1019, 0, none⟩)), (57, .pointer (some ⟨g1019, 0, none⟩)), (58, .slice A1473 t1447.length C1474), (59, .int .i64 (t1447.length : Int)), (60, .bool (!(decide (t1455 = (t1447.length : Int))))), (62, .bool (!(decide (t1455 = (t1447.length : Int)))))] (by kernel_rfl) ?_
                          refine ED.as' [(2, .slice (some ad1398) l12.length C14), (7, .pointer (some ⟨g1012, 0, none⟩)), (8, .pointer (some ⟨g1019, 0, none⟩)), (9, .int .i64 x1177), (10, .int .i64 x1401), (11, .int .i64 t1412), (53, .pointer (some ⟨g1012, 0, none⟩)), (54, .int .i64 t1455), (55, .pointer (some ⟨g1019, 0, none⟩)), (56, .pointer (some ⟨g1019, 0, none⟩)), (57, .pointer (some ⟨g1019, 0, none⟩)), (58, .slice A1473 t1447.length C1474), (59, .int .i64 (t1447.length : Int)), (60, .bool (false)), (62, .bool (false))] (by simp only [dec_t h1457, Bool.not_true, Bool.not_false]) ?_
                          refine ED.quick hN hF hC [16, 17, 18, 19] [2, 7, 8, 9, 10, 11, 53, 54, 55, 56, 57, 58, 59, 60, 63, 64, 66] 5 [(2, .slice (some ad1398) l12.length C14), (7, .pointer (some ⟨g1012, 0, none⟩)), (8, .pointer (some ⟨g1019, 0, none⟩)), (9, .int .i64 x1177), (10, .int .i64 x1401), (11, .int .i64 t1412), (53, .pointer (some ⟨g1012, 0, none⟩)), (54, .int .i64 t1455), (55, .pointer (some ⟨g1019, 0, none⟩)), (56, .pointer (some ⟨g1019, 0, none⟩)), (57, .pointer (some ⟨g1019, 0, none⟩)), (58, .slice A1473 t1447.length C1474), (59, .int .i64 (t1447.length : Int)), (60, .bool (false)), (63, .int .i64 t1412), (64, .bool (decide (t1412 < 0))), (66, .bool (decide (t1412 < 0)))] #[true, true, true, true, true, true, true, true, true, true, true, true, true, true, true, true, true, true, true, true, false, false, false, false, false] (by kernel_rfl) (by kernel_rfl) ?_
                          refine ED.keep [2, 7, 8, 9, 10, 11, 53, 54, 55, 56, 57, 58, 59, 60, 63, 64, 66] [(2, .slice (some ad1398) l12.length C14), (7, .pointer (some ⟨g1012, 0, none⟩)), (8, .pointer (some ⟨g1019, 0, none⟩)), (9, .int .i64 x1177), (10, .int .i64 x1401), (11, .int .i64 t1412), (53, .pointer (some ⟨g1012, 0, none⟩)), (54, .int .i64 t1455), (55, .pointer (some ⟨g1019, 0, none⟩)), (56, .pointer (some ⟨g1019, 0, none⟩)), (57, .pointer (some ⟨g1019, 0, none⟩)), (58, .slice A1473 t1447.length C1474), (59, .int .i64 (t1447.length : Int)), (60, .bool (false)), (63, .int .i64 t1412), (64, .bool (decide (t1412 < 0))), (66, .bool (decide (t1412 < 0)))] (by kernel_rfl) ?_
                          refine ED.as' [(2, .slice (some ad1398) l12.length C14), (7, .pointer (some ⟨g1012, 0, none⟩)), (8, .pointer (some ⟨g1019, 0, none⟩)), (9, .int .i64 x1177), (10, .int .i64 x1401), (11, .int .i64 t1412), (53, .pointer (some ⟨g1012, 0, none⟩)), (54, .int .i64 t1455), (55, .pointer (some ⟨g1019, 0, none⟩)), (56, .pointer (some ⟨g1019, 0, none⟩)), (57, .pointer (some ⟨g1019, 0, none⟩)), (58, .slice A1473 t1447.length C1474), (59, .int .i64 (t1447.length : Int)), (60, .bool (false)), (63, .int .i64 t1412), (64, .bool (false)), (66, .bool (false))] (by simp only [dec_f h1458, Bool.not_true, Bool.not_false]) ?_
                          refine ED.quick hN hF hC [20, 21, 22, 23, 24] [2, 7, 8, 9, 53, 54, 55, 56, 57, 58, 59, 60, 63, 64, 67, 68, 69, 70, 71] 0 [(2, .slice (some ad1398) l12.length C14), (7, .pointer (some ⟨g1012, 0, none⟩)), (8, .pointer (some ⟨g1019, 0, none⟩)), (9, .int .i64 x1177), (53, .pointer (some ⟨g1012, 0, none⟩)), (54, .int .i64 t1455), (55, .pointer (some ⟨g1019, 0, none⟩)), (56, .pointer (some ⟨g1019, 0, none⟩)), (57, .pointer (some ⟨g1019, 0, none⟩)), (58, .slice A1473 t1447.length C1474), (59, .int .i64 (t1447.length : Int)), (60, .bool (false)), (63, .int .i64 t1412), (64, .bool (false)), (67, .int .i64 t1412), (68, .int .i64 x1401), (69, .int .i64 (mx x1401 1)), (70, .bool (decide (t1412 ≥ (mx x1401 1)))), (71, .bool (decide (t1412 ≥ (mx x1401 1))))] #[true, true, true, true, true, true, true, true, true, true, true, true, true, true, true, true, true, true, true, true, true, true, true, true, true] (by kernel_rfl) (by kernel_rfl) ?_
                          refine ED.done (by kernel_rfl) ?_
                          refine EQ.to ?_
                          refine EQ.keep [2, 7, 8, 9, 53, 54, 55, 56, 57, 58, 59, 60, 63, 64, 67, 68, 69, 70, 71] [(2, .slice (some ad1398) l12.length C14), (7, .pointer (some ⟨g1012, 0, none⟩)), (8, .pointer (some ⟨g1019, 0, none⟩)), (9, .int .i64 x1177), (53, .pointer (some ⟨g1012, 0, none⟩)), (54, .int .i64 t1455), (55, .pointer (some ⟨g1019, 0, none⟩)), (56, .pointer (some ⟨g1019, 0, none⟩)), (57, .pointer (some ⟨g1019, 0, none⟩)), (58, .slice A1473 t1447.length C1474), (59, .int .i64 (t1447.length : Int)), (60, .bool (false)), (63, .int .i64 t1412), (64, .bool (false)), (67, .int .i64 t1412), (68, .int .i64 x1401), (69, .int .i64 (mx x1401 1)), (70, .bool (decide (t1412 ≥ (mx x1401 1)))), (71, .bool (decide (t1412 ≥ (mx x1401 1))))] (by kernel_rfl) ?_
                          exact fun a ha => ⟨A1473, C1474, A1473, C1474, ha, (hS.re [3, 3, 3, 3] [] rfl (sub_cons 0 rfl (sub_cons 0 rfl (sub_cons 1 rfl (sub_cons 1 rfl (sub_cons 3 rfl (sub_cons 4 rfl (sub_cons 4 rfl (sub_cons 4 rfl (sub_cons 7 rfl (sub_tail (sub_tail (sub_tail (sub_tail (sub_tail (sub_tail (sub_tail (sub_tail (sub_self)))))))))))))))))))⟩
                      · obtain ⟨A1469, C1470, A1471, C1472, ha, hS⟩ := hI
                        refine EQ.at ?_ a ha
                        clear ha a
                        refine EQ.to ?_
                        refine EQ.keep [2, 7, 8, 9, 71] [(2, .slice (some ad1398) l12.length C14), (7, .pointer (some ⟨g1012, 0, none⟩)), (8, .pointer (some ⟨g1019, 0, none⟩)), (9, .int .i64 x1177), (71, .bool (decide (t1412 ≥ (mx x1401 1))))] (by kernel_rfl) ?_
                        exact fun a ha => ⟨t1454, t1447, t1448, decide (t1412 ≥ (mx x1401 1)), A1469, C1470, ha, (hS.re [3, 3, 3, 3] [] rfl (sub_cons 0 rfl (sub_cons 2 rfl (sub_cons 2 rfl (sub_cons 4 rfl (sub_cons 5 rfl (sub_cons 5 rfl (sub_cons 5 rfl (sub_cons 8 rfl (sub_tail (sub_tail (sub_tail (sub_tail (sub_tail (sub_tail (sub_tail (sub_tail (sub_tail (sub_self))))))))))))))))))), H⟩
                  · rw [if_neg h1457] at H
                    refine EW.meet (id := 13) (ops := C3.r.r.r.r.l.r.l.l.r.l.l.r.r.r.l.ops) (fun a w => ∃ A1477 : Option Addr, ∃ C1478 : Nat, ∃ A1479 : Option Addr, ∃ C1480 : Nat, Sat 72 [(2, .slice (some ad1398) l12.length C14), (7, .pointer (some ⟨g1012, 0, none⟩)), (8, .pointer (some ⟨g1019, 0, none⟩)), (9, .int .i64 x1177), (53, .pointer (some ⟨g1012, 0, none⟩)), (54, .int .i64 t1455), (55, .pointer (some ⟨g1019, 0, none⟩)), (56, .pointer (some ⟨g1019, 0, none⟩)), (57, .pointer (some ⟨g1019, 0, none⟩)), (58, .slice A1479 t1447.length C1480), (59, .int .i64 (t1447.length : Int)), (60, .bool (true)), (71, .bool (true))] a ∧ St B w (Ass.box 89 g1012 [.slice A1413 t1411.length C1414, .func (.func 46) #[.pointer (some ⟨g1013, 0, none⟩)] #[]] :: Ass.own 5 (Kd.int .u8) A1413 C1414 t1411 :: Ass.box 103 g1013 [.int .u64 t1454] :: Ass.box 33 g1019 [.slice A1477 t1447.length C1478, .int .u64 t1448] :: os) (Ro.sl (Kd.int .u8) A1477 C1478 t1447 :: Ro.sl (Kd.int .u8) A1479 C1480 t1447 :: Ro.sl (Kd.int .u8) A1170 C1171 x1169 :: Ro.sl (Kd.int .u8) A1170 C1171 x1169 :: Ro.sl (Kd.int .u8) A1020 C1021 t1017 :: Ro.sl (Kd.int .u8) A9 C10 l8 :: Ro.sl (Kd.int .u8) A9 C10 l8 :: Ro.sl (Kd.int .u8) A9 C10 l8 :: Ro.sl (Kd.int .i64) (some ad1398) C14 l12 :: rs)) (by kernel_rfl) ?_ (fun a w hI => ?_)
                    · have hS := hS.drew
                      refine EW.draw (B := B) (id := 13) (ops := C3.r.r.r.r.l.r.l.l.r.l.l.r.r.r.l.ops) [Ass.box 89 g1012 [.slice A1413 t1411.length C1414, .func (.func 46) #[.pointer (some ⟨g1013, 0, none⟩)] #[]], Ass.own 5 (Kd.int .u8) A1413 C1414 t1411] [Ro.sl (Kd.int .u8) A1170 C1171 x1169, Ro.sl (Kd.int .u8) A1020 C1021 t1017, Ro.sl (Kd.int .u8) A9 C10 l8, Ro.sl (Kd.int .u8) A9 C10 l8, Ro.sl (Kd.int .u8) A9 C10 l8, Ro.sl (Kd.int .i64) (some ad1398) C14 l12] (by kernel_rfl) (by kernel_rfl) ?_
                      have hN : Region.noSelect C3.r.r.r.r.l.r.l.l.r.l.l.r.r.r.l.ops = true := (by kernel_rfl)
                      have hF : freeAll C3.r.r.r.r.l.r.l.l.r.l.l.r.r.r.l.ops = true := (by kernel_rfl)
                      have hC : Core B [Ass.box 89 g1012 [.slice A1413 t1411.length C1414, .func (.func 46) #[.pointer (some ⟨g1013, 0, none⟩)] #[]], Ass.own 5 (Kd.int .u8) A1413 C1414 t1411] [Ro.sl (Kd.int .u8) A1170 C1171 x1169, Ro.sl (Kd.int .u8) A1020 C1021 t1017, Ro.sl (Kd.int .u8) A9 C10 l8, Ro.sl (Kd.int .u8) A9 C10 l8, Ro.sl (Kd.int .u8) A9 C10 l8, Ro.sl (Kd.int .i64) (some ad1398) C14 l12] _ := ⟨_, _, hS.re [2, 2] [] rfl sub_self⟩
                      refine ED.quick hN hF hC [0, 1, 2] [2, 7, 8, 9, 10, 11, 47, 48, 49] 22 [(2, .slice (some ad1398) l12.length C14), (7, .pointer (some ⟨g1012, 0, none⟩)), (8, .pointer (some ⟨g1019, 0, none⟩)), (9, .int .i64 x1177), (10, .int .i64 x1401), (11, .int .i64 t1412), (47, .int .i64 t1412), (48, .pointer (some ⟨g1019, 0, none⟩)), (49, .int .i64 x1401)] #[true, true, true, false, false, false, false, false, false, false, false, false, false, false, false, false, false, false, false, false, false, false, false, false, false] (by kernel_rfl) (by kernel_rfl) ?_
                      have hS : St B _ (Ass.box 33 g1019 [.slice A1170 x1169.length C1171, .int .u64 x1172] :: Ass.box 103 g1013 [.int .u64 t1410] :: Ass.box 89 g1012 [.slice A1413 t1411.length C1414, .func (.func 46) #[.pointer (some ⟨g1013, 0, none⟩)] #[]] :: Ass.own 5 (Kd.int .u8) A1413 C1414 t1411 :: os) (Ro.sl (Kd.int .u8) A1170 C1171 x1169 :: Ro.sl (Kd.int .u8) A1170 C1171 x1169 :: Ro.sl (Kd.int .u8) A1020 C1021 t1017 :: Ro.sl (Kd.int .u8) A9 C10 l8 :: Ro.sl (Kd.int .u8) A9 C10 l8 :: Ro.sl (Kd.int .u8) A9 C10 l8 :: Ro.sl (Kd.int .i64) (some ad1398) C14 l12 :: rs) := hS.re [3] [] rfl (sub_cons 0 rfl sub_self)
                      refine ED.one 3 21 #[true, true, true, true, false, false, false, false, false, false, false, false, false, false, false, false, false, false, false, false, false, false, false, false, false] (by kernel_rfl) (by kernel_rfl) (by kernel_rfl) (EO.callD 17 [.pointer (some ⟨g1019, 0, none⟩), .int .i64 x1401] _ 50 (by kernel_rfl) (by kernel_rfl) (by kernel_rfl) (confidantref15_Picks_Next.calls hc1452 hS) ?_)
                      rintro v w ⟨A1481, C1482, rfl, hS⟩
                      have hC : Core B [Ass.box 89 g1012 [.slice A1413 t1411.length C1414, .func (.func 46) #[.pointer (some ⟨g1013, 0, none⟩)] #[]], Ass.own 5 (Kd.int .u8) A1413 C1414 t1411] [Ro.sl (Kd.int .u8) A1170 C1171 x1169, Ro.sl (Kd.int .u8) A1020 C1021 t1017, Ro.sl (Kd.int .u8) A9 C10 l8, Ro.sl (Kd.int .u8) A9 C10 l8, Ro.sl (Kd.int .u8) A9 C10 l8, Ro.sl (Kd.int .i64) (some ad1398) C14 l12] _ := ⟨_, _, hS.re [3, 3] [] rfl (sub_cons 1 rfl (sub_cons 3 rfl (sub_cons 4 rfl (sub_cons 4 rfl (sub_cons 4 rfl (sub_cons 7 rfl sub_self))))))⟩
                      refine ⟨hC, ?_⟩
                      refine ED.quick hN hF hC [4, 5] [2, 7, 8, 9, 10, 11, 52] 19 [(2, .slice (some ad1398) l12.length C14), (7, .pointer (some ⟨g1012, 0, none⟩)), (8, .pointer (some ⟨g1019, 0, none⟩)), (9, .int .i64 x1177), (10, .int .i64 x1401), (11, .int .i64 t1412), (52, .bool (!(decide (t1412 = t1449))))] #[true, true, true, true, true, true, false, false, false, false, false, false, false, false, false, false, false, false, false, false, false, false, false, false, false] (by kernel_rfl) (by kernel_rfl) ?_
                      refine ED.keep [2, 7, 8, 9, 10, 11, 52] [(2, .slice (some ad1398) l12.length C14), (7, .pointer (some ⟨g1012, 0, none⟩)), (8, .pointer (some ⟨g1019, 0, none⟩)), (9, .int .i64 x1177), (10, .int .i64 x1401), (11, .int .i64 t1412), (52, .bool (!(decide (t1412 = t1449))))] (by kernel_rfl) ?_
                      refine ED.as' [(2, .slice (some ad1398) l12.length C14), (7, .pointer (some ⟨g1012, 0, none⟩)), (8, .pointer (some ⟨g1019, 0, none⟩)), (9, .int .i64 x1177), (10, .int .i64 x1401), (11, .int .i64 t1412), (52, .bool (false))] (by simp only [dec_t h1453, Bool.not_true, Bool.not_false]) ?_
                      refine ED.quick hN hF hC [6, 8, 9, 10] [2, 7, 8, 9, 10, 11, 52, 53, 55, 56, 57] 15 [(2, .slice (some ad1398) l12.length C14), (7, .pointer (some ⟨g1012, 0, none⟩)), (8, .pointer (some ⟨g1019, 0, none⟩)), (9, .int .i64 x1177), (10, .int .i64 x1401), (11, .int .i64 t1412), (52, .bool (false)), (53, .pointer (some ⟨g1012, 0, none⟩)), (55, .pointer (some ⟨g1019, 0, none⟩)), (56, .pointer (some ⟨g1019, 0, none⟩)), (57, .pointer (some ⟨g1019, 0, none⟩))] #[true, true, true, true, true, true, true, false, true, true, true, false, false, false, false, false, false, false, false, false, false, false, false, false, false] (by kernel_rfl) (by kernel_rfl) ?_
                      refine ED.two 7 11 14 (by kernel_rfl) (by kernel_rfl) ?_ ?_
                      · have hS : St B _ (Ass.box 89 g1012 [.slice A1413 t1411.length C1414, .func (.func 46) #[.pointer (some ⟨g1013, 0, none⟩)] #[]] :: Ass.own 5 (Kd.int .u8) A1413 C1414 t1411 :: Ass.box 103 g1013 [.int .u64 t1410] :: Ass.box 33 g1019 [.slice A1481 t1447.length C1482, .int .u64 t1448] :: os) (Ro.sl (Kd.int .u8) A1481 C1482 t1447 :: Ro.sl (Kd.int .u8) A1170 C1171 x1169 :: Ro.sl (Kd.int .u8) A1170 C1171 x1169 :: Ro.sl (Kd.int .u8) A1020 C1021 t1017 :: Ro.sl (Kd.int .u8) A9 C10 l8 :: Ro.sl (Kd.int .u8) A9 C10 l8 :: Ro.sl (Kd.int .u8) A9 C10 l8 :: Ro.sl (Kd.int .i64) (some ad1398) C14 l12 :: rs) := hS.re [1, 3, 3] [] rfl sub_self
                        refine EO.callD 18 [.pointer (some ⟨g1012, 0, none⟩)] _ 54 (by kernel_rfl) (by kernel_rfl) (by kernel_rfl) (picks_Picks_Left.calls hc1456 hS) ?_
                        rintro v w ⟨rfl, hS⟩
                        have hC : Core B [Ass.box 89 g1012 [.slice A1413 t1411.length C1414, .func (.func 46) #[.pointer (some ⟨g1013, 0, none⟩)] #[]], Ass.own 5 (Kd.int .u8) A1413 C1414 t1411] [Ro.sl (Kd.int .u8) A1170 C1171 x1169, Ro.sl (Kd.int .u8) A1020 C1021 t1017, Ro.sl (Kd.int .u8) A9 C10 l8, Ro.sl (Kd.int .u8) A9 C10 l8, Ro.sl (Kd.int .u8) A9 C10 l8, Ro.sl (Kd.int .i64) (some ad1398) C14 l12] _ := ⟨_, _, hS.re [1, 1] [] rfl (sub_cons 1 rfl (sub_cons 3 rfl (sub_cons 4 rfl (sub_cons 4 rfl (sub_cons 4 rfl (sub_cons 7 rfl sub_self))))))⟩
                        refine ⟨hC, ?_⟩
                        refine ED.at' #[true, true, true, true, true, true, true, true, true, true, true, false, false, false, false, false, false, false, false, false, false, false, false, false, false] (by kernel_rfl) ?_
                        refine ED.one 11 13 #[true, true, true, true, true, true, true, true, true, true, true, true, false, false, false, false, false, false, false, false, false, false, false, false, false] (by kernel_rfl) (by kernel_rfl) (by kernel_rfl) (EO.Y (YO.loadBox hS 3 rfl 22 0 1 (.slice A1481 t1447.length C1482) 58 (by kernel_rfl) (by kernel_rfl) (by kernel_rfl) (by kernel_rfl)) ?_)
                        have hC : Core B [Ass.box 89 g1012 [.slice A1413 t1411.length C1414, .func (.func 46) #[.pointer (some ⟨g1013, 0, none⟩)] #[]], Ass.own 5 (Kd.int .u8) A1413 C1414 t1411] [Ro.sl (Kd.int .u8) A1170 C1171 x1169, Ro.sl (Kd.int .u8) A1020 C1021 t1017, Ro.sl (Kd.int .u8) A9 C10 l8, Ro.sl (Kd.int .u8) A9 C10 l8, Ro.sl (Kd.int .u8) A9 C10 l8, Ro.sl (Kd.int .i64) (some ad1398) C14 l12] _ := ⟨_, _, hS.re [1, 1] [] rfl (sub_cons 1 rfl (sub_cons 3 rfl (sub_cons 4 rfl (sub_cons 4 rfl (sub_cons 4 rfl (sub_cons 7 rfl sub_self))))))⟩
                        refine ⟨hC, ?_⟩
                        refine ED.quick hN hF hC [12, 13, 14, 15] [2, 7, 8, 9, 10, 11, 53, 54, 55, 56, 57, 58, 59, 60, 62] 9 [(2, .slice (some ad1398) l12.length C14), (7, .pointer (some ⟨g1012, 0, none⟩)), (8, .pointer (some ⟨g1019, 0, none⟩)), (9, .int .i64 x1177), (10, .int .i64 x1401), (11, .int .i64 t1412), (53, .pointer (some ⟨g1012, 0, none⟩)), (54, .int .i64 t1455), (55, .pointer (some ⟨g1019, 0, none⟩)), (56, .pointer (some ⟨g1019, 0, none⟩)), (57, .pointer (some ⟨g1019, 0, none⟩)), (58, .slice A1481 t1447.length C1482), (59, .int .i64 (t1447.length : Int)), (60, .bool (!(decide (t1455 = (t1447.length : Int))))), (62, .bool (!(decide (t1455 = (t1447.length : Int)))))] #[true, true, true, true, true, true, true, true, true, true, true, true, true, true, true, true, false, false, false, false, false, false, false, false, false] (by kernel_rfl) (by kernel_rfl) ?_
                        refine ED.keep [2, 7, 8, 9, 10, 11, 53, 54, 55, 56, 57, 58, 59, 60, 62] [(2, .slice (some ad1398) l12.length C14), (7, .pointer (some ⟨g1012, 0, none⟩)), (8, .pointer (some ⟨g1019, 0, none⟩)), (9, .int .i64 x1177), (10, .int .i64 x1401), (11, .int .i64 t1412), (53, .pointer (some ⟨g1012, 0, none⟩)), (54, .int .i64 t1455), (55, .pointer (some ⟨g1019, 0, none⟩)), (56, .pointer (some ⟨g1019, 0, none⟩)), (57, .pointer (some ⟨g1019, 0, none⟩)), (58, .slice A1481 t1447.length C1482), (59, .int .i64 (t1447.length : Int)), (60, .bool (!(decide (t1455 = (t1447.length : Int))))), (62, .bool (!(decide (t1455 = (t1447.length : Int)))))] (by kernel_rfl) ?_
                        refine ED.as' [(2, .slice (some ad1398) l12.length C14), (7, .pointer (some ⟨g1012, 0, none⟩)), (8, .pointer (some ⟨g1019, 0, none⟩)), (9, .int .i64 x1177), (10, .int .i64 x1401), (11, .int .i64 t1412), (53, .pointer (some ⟨g1012, 0, none⟩)), (54, .int .i64 t1455), (55, .pointer (some ⟨g1019, 0, none⟩)), (56, .pointer (some ⟨g1019, 0, none⟩)), (57, .pointer (some ⟨g1019, 0, none⟩)), (58, .slice A1481 t1447.length C1482), (59, .int .i64 (t1447.length : Int)), (60, .bool (true)), (62, .bool (true))] (by simp only [dec_f h1457, Bool.not_true, Bool.not_false]) ?_
                        refine ED.quick hN hF hC [16, 17, 18, 19, 20, 21, 22, 23, 24] [2, 7, 8, 9, 53, 54, 55, 56, 57, 58, 59, 60, 63, 64, 67, 68, 69, 70, 71] 0 [(2, .slice (some ad1398) l12.length C14), (7, .pointer (some ⟨g1012, 0, none⟩)), (8, .pointer (some ⟨g1019, 0, none⟩)), (9, .int .i64 x1177), (53, .pointer (some ⟨g1012, 0, none⟩)), (54, .int .i64 t1455), (55, .pointer (some ⟨g1019, 0, none⟩)), (56, .pointer (some ⟨g1019, 0, none⟩)), (57, .pointer (some ⟨g1019, 0, none⟩)), (58, .slice A1481 t1447.length C1482), (59, .int .i64 (t1447.length : Int)), (60, .bool (true)), (63, undef), (64, undef), (67, undef), (68, undef), (69, undef), (70, undef), (71, .bool (true))] #[true, true, true, true, true, true, true, true, true, true, true, true, true, true, true, true, true, true, true, true, true, true, true, true, true] (by kernel_rfl) (by kernel_rfl) ?_
                        refine ED.done (by kernel_rfl) ?_
                        refine EQ.to ?_
                        refine EQ.keep [2, 7, 8, 9, 53, 54, 55, 56, 57, 58, 59, 60, 71] [(2, .slice (some ad1398) l12.length C14), (7, .pointer (some ⟨g1012, 0, none⟩)), (8, .pointer (some ⟨g1019, 0, none⟩)), (9, .int .i64 x1177), (53, .pointer (some ⟨g1012, 0, none⟩)), (54, .int .i64 t1455), (55, .pointer (some ⟨g1019, 0, none⟩)), (56, .pointer (some ⟨g1019, 0, none⟩)), (57, .pointer (some ⟨g1019, 0, none⟩)), (58, .slice A1481 t1447.length C1482), (59, .int .i64 (t1447.length : Int)), (60, .bool (true)), (71, .bool (true))] (by kernel_rfl) ?_
                        exact fun a ha => ⟨A1481, C1482, A1481, C1482, ha, (hS.re [3, 3, 3, 3] [] rfl (sub_cons 0 rfl (sub_cons 0 rfl (sub_cons 1 rfl (sub_cons 1 rfl (sub_cons 3 rfl (sub_cons 4 rfl (sub_cons 4 rfl (sub_cons 4 rfl (sub_cons 7 rfl (sub_tail (sub_tail (sub_tail (sub_tail (sub_tail (sub_tail (sub_tail (sub_tail (sub_self)))))))))))))))))))⟩
                      · refine EO.Y (YO.loadBox hS 0 rfl 22 0 1 (.slice A1481 t1447.length C1482) 58 (by kernel_rfl) (by kernel_rfl) (by kernel_rfl) (by kernel_rfl)) ?_
                        have hC : Core B [Ass.box 89 g1012 [.slice A1413 t1411.length C1414, .func (.func 46) #[.pointer (some ⟨g1013, 0, none⟩)] #[]], Ass.own 5 (Kd.int .u8) A1413 C1414 t1411] [Ro.sl (Kd.int .u8) A1170 C1171 x1169, Ro.sl (Kd.int .u8) A1020 C1021 t1017, Ro.sl (Kd.int .u8) A9 C10 l8, Ro.sl (Kd.int .u8) A9 C10 l8, Ro.sl (Kd.int .u8) A9 C10 l8, Ro.sl (Kd.int .i64) (some ad1398) C14 l12] _ := ⟨_, _, hS.re [3, 3] [] rfl (sub_cons 1 rfl (sub_cons 3 rfl (sub_cons 4 rfl (sub_cons 4 rfl (sub_cons 4 rfl (sub_cons 7 rfl sub_self))))))⟩
                        refine ⟨hC, ?_⟩
                        refine ED.at' #[true, true, true, true, true, true, true, false, true, true, true, true, false, false, false, false, false, false, false, false, false, false, false, false, false] (by kernel_rfl) ?_
                        refine ED.quick hN hF hC [12] [2, 7, 8, 9, 10, 11, 52, 53, 55, 56, 57, 58, 59] 13 [(2, .slice (some ad1398) l12.length C14), (7, .pointer (some ⟨g1012, 0, none⟩)), (8, .pointer (some ⟨g1019, 0, none⟩)), (9, .int .i64 x1177), (10, .int .i64 x1401), (11, .int .i64 t1412), (52, .bool (false)), (53, .pointer (some ⟨g1012, 0, none⟩)), (55, .pointer (some ⟨g1019, 0, none⟩)), (56, .pointer (some ⟨g1019, 0, none⟩)), (57, .pointer (some ⟨g1019, 0, none⟩)), (58, .slice A1481 t1447.length C1482), (59, .int .i64 (t1447.length : Int))] #[true, true, true, true, true, true, true, false, true, true, true, true, true, false, false, false, false, false, false, false, false, false, false, false, false] (by kernel_rfl) (by kernel_rfl) ?_
                        have hS : St B _ (Ass.box 89 g1012 [.slice A1413 t1411.length C1414, .func (.func 46) #[.pointer (some ⟨g1013, 0, none⟩)] #[]] :: Ass.own 5 (Kd.int .u8) A1413 C1414 t1411 :: Ass.box 103 g1013 [.int .u64 t1410] :: Ass.box 33 g1019 [.slice A1481 t1447.length C1482, .int .u64 t1448] :: os) (Ro.sl (Kd.int .u8) A1481 C1482 t1447 :: Ro.sl (Kd.int .u8) A1170 C1171 x1169 :: Ro.sl (Kd.int .u8) A1170 C1171 x1169 :: Ro.sl (Kd.int .u8) A1020 C1021 t1017 :: Ro.sl (Kd.int .u8) A9 C10 l8 :: Ro.sl (Kd.int .u8) A9 C10 l8 :: Ro.sl (Kd.int .u8) A9 C10 l8 :: Ro.sl (Kd.int .i64) (some ad1398) C14 l12 :: rs) := hS.re [1, 3, 3] [] rfl sub_self
                        refine ED.one 7 12 #[true, true, true, true, true, true, true, true, true, true, true, true, true, false, false, false, false, false, false, false, false, false, false, false, false] (by kernel_rfl) (by kernel_rfl) (by kernel_rfl) (EO.callD 18 [.pointer (some ⟨g1012, 0, none⟩)] _ 54 (by kernel_rfl) (by kernel_rfl) (by kernel_rfl) (picks_Picks_Left.calls hc1456 hS) ?_)
                        rintro v w ⟨rfl, hS⟩
                        have hC : Core B [Ass.box 89 g1012 [.slice A1413 t1411.length C1414, .func (.func 46) #[.pointer (some ⟨g1013, 0, none⟩)] #[]], Ass.own 5 (Kd.int .u8) A1413 C1414 t1411] [Ro.sl (Kd.int .u8) A1170 C1171 x1169, Ro.sl (Kd.int .u8) A1020 C1021 t1017, Ro.sl (Kd.int .u8) A9 C10 l8, Ro.sl (Kd.int .u8) A9 C10 l8, Ro.sl (Kd.int .u8) A9 C10 l8, Ro.sl (Kd.int .i64) (some ad1398) C14 l12] _ := ⟨_, _, hS.re [1, 1] [] rfl (sub_cons 1 rfl (sub_cons 3 rfl (sub_cons 4 rfl (sub_cons 4 rfl (sub_cons 4 rfl (sub_cons 7 rfl sub_self))))))⟩
                        refine ⟨hC, ?_⟩
                        refine ED.quick hN hF hC [13, 14, 15] [2, 7, 8, 9, 10, 11, 53, 54, 55, 56, 57, 58, 59, 60, 62] 9 [(2, .slice (some ad1398) l12.length C14), (7, .pointer (some ⟨g1012, 0, none⟩)), (8, .pointer (some ⟨g1019, 0, none⟩)), (9, .int .i64 x1177), (10, .int .i64 x1401), (11, .int .i64 t1412), (53, .pointer (some ⟨g1012, 0, none⟩)), (54, .int .i64 t1455), (55, .pointer (some ⟨g1019, 0, none⟩)), (56, .pointer (some ⟨g1019, 0, none⟩)), (57, .pointer (some ⟨g1019, 0, none⟩)), (58, .slice A1481 t1447.length C1482), (59, .int .i64 (t1447.length : Int)), (60, .bool (!(decide (t1455 = (t1447.length : Int))))), (62, .bool (!(decide (t1455 = (t1447.length : Int)))))] #[true, true, true, true, true, true, true, true, true, true, true, true, true, true, true, true, false, false, false, false, false, false, false, false, false] (by kernel_rfl) (by kernel_rfl) ?_
                        refine ED.keep [2, 7, 8, 9, 10, 11, 53, 54, 55, 56, 57, 58, 59, 60, 62] [(2, .slice (some ad1398) l12.length C14), (7, .pointer (some ⟨g1012, 0, none⟩)), (8, .pointer (some ⟨g1019, 0, none⟩)), (9, .int .i64 x1177), (10, .int .i64 x1401), (11, .int .i64 t1412), (53, .pointer (some ⟨g1012, 0, none⟩)), (54, .int .i64 t1455), (55, .pointer (some ⟨g1019, 0, none⟩)), (56, .pointer (some ⟨g1019, 0, none⟩)), (57, .pointer (some ⟨g1019, 0, none⟩)), (58, .slice A1481 t1447.length C1482), (59, .int .i64 (t1447.length : Int)), (60, .bool (!(decide (t1455 = (t1447.length : Int))))), (62, .bool (!(decide (t1455 = (t1447.length : Int)))))] (by kernel_rfl) ?_
                        refine ED.as' [(2, .slice (some ad1398) l12.length C14), (7, .pointer (some ⟨g1012, 0, none⟩)), (8, .pointer (some ⟨g1019, 0, none⟩)), (9, .int .i64 x1177), (10, .int .i64 x1401), (11, .int .i64 t1412), (53, .pointer (some ⟨g1012, 0, none⟩)), (54, .int .i64 t1455), (55, .pointer (some ⟨g1019, 0, none⟩)), (56, .pointer (some ⟨g1019, 0, none⟩)), (57, .pointer (some ⟨g1019, 0, none⟩)), (58, .slice A1481 t1447.length C1482), (59, .int .i64 (t1447.length : Int)), (60, .bool (true)), (62, .bool (true))] (by simp only [dec_f h1457, Bool.not_true, Bool.not_false]) ?_
                        refine ED.quick hN hF hC [16, 17, 18, 19, 20, 21, 22, 23, 24] [2, 7, 8, 9, 53, 54, 55, 56, 57, 58, 59, 60, 63, 64, 67, 68, 69, 70, 71] 0 [(2, .slice (some ad1398) l12.length C14), (7, .pointer (some ⟨g1012, 0, none⟩)), (8, .pointer (some ⟨g1019, 0, none⟩)), (9, .int .i64 x1177), (53, .pointer (some ⟨g1012, 0, none⟩)), (54, .int .i64 t1455), (55, .pointer (some ⟨g1019, 0, none⟩)), (56, .pointer (some ⟨g1019, 0, none⟩)), (57, .pointer (some ⟨g1019, 0, none⟩)), (58, .slice A1481 t1447.length C1482), (59, .int .i64 (t1447.length : Int)), (60, .bool (true)), (63, undef), (64, undef), (67, undef), (68, undef), (69, undef), (70, undef), (71, .bool (true))] #[true, true, true, true, true, true, true, true, true, true, true, true, true, true, true, true, true, true, true, true, true, true, true, true, true] (by kernel_rfl) (by kernel_rfl) ?_
                        refine ED.done (by kernel_rfl) ?_
                        refine EQ.to ?_
                        refine EQ.keep [2, 7, 8, 9, 53, 54, 55, 56, 57, 58, 59, 60, 71] [(2, .slice (some ad1398) l12.length C14), (7, .pointer (some ⟨g1012, 0, none⟩)), (8, .pointer (some ⟨g1019, 0, none⟩)), (9, .int .i64 x1177), (53, .pointer (some ⟨g1012, 0, none⟩)), (54, .int .i64 t1455), (55, .pointer (some ⟨g1019, 0, none⟩)), (56, .pointer (some ⟨g1019, 0, none⟩)), (57, .pointer (some ⟨g1019, 0, none⟩)), (58, .slice A1481 t1447.length C1482), (59, .int .i64 (t1447.length : Int)), (60, .bool (true)), (71, .bool (true))] (by kernel_rfl) ?_
                        exact fun a ha => ⟨A1481, C1482, A1481, C1482, ha, (hS.re [3, 3, 3, 3] [] rfl (sub_cons 0 rfl (sub_cons 0 rfl (sub_cons 1 rfl (sub_cons 1 rfl (sub_cons 3 rfl (sub_cons 4 rfl (sub_cons 4 rfl (sub_cons 4 rfl (sub_cons 7 rfl (sub_tail (sub_tail (sub_tail (sub_tail (sub_tail (sub_tail (sub_tail (sub_tail (sub_self)))))))))))))))))))⟩
                    · obtain ⟨A1477, C1478, A1479, C1480, ha, hS⟩ := hI
                      refine EQ.at ?_ a ha
                      clear ha a
                      refine EQ.to ?_
                      refine EQ.keep [2, 7, 8, 9, 71] [(2, .slice (some ad1398) l12.length C14), (7, .pointer (some ⟨g1012, 0, none⟩)), (8, .pointer (some ⟨g1019, 0, none⟩)), (9, .int .i64 x1177), (71, .bool (true))] (by kernel_rfl) ?_
                      exact fun a ha => ⟨t1454, t1447, t1448, true, A1477, C1478, ha, (hS.re [3, 3, 3, 3] [] rfl (sub_cons 0 rfl (sub_cons 2 rfl (sub_cons 2 rfl (sub_cons 4 rfl (sub_cons 5 rfl (sub_cons 5 rfl (sub_cons 5 rfl (sub_cons 8 rfl (sub_tail (sub_tail (sub_tail (sub_tail (sub_tail (sub_tail (sub_tail (sub_tail (sub_tail (sub_self))))))))))))))))))), H⟩
                · rw [if_neg h1453] at H
                  have hS := hS.drew
                  refine EW.draw (B := B) (id := 13) (ops := C3.r.r.r.r.l.r.l.l.r.l.l.r.r.r.l.ops) [Ass.box 103 g1013 [.int .u64 t1410], Ass.box 89 g1012 [.slice A1413 t1411.length C1414, .func (.func 46) #[.pointer (some ⟨g1013, 0, none⟩)] #[]], Ass.own 5 (Kd.int .u8) A1413 C1414 t1411] [Ro.sl (Kd.int .u8) A1170 C1171 x1169, Ro.sl (Kd.int .u8) A1020 C1021 t1017, Ro.sl (Kd.int .u8) A9 C10 l8, Ro.sl (Kd.int .u8) A9 C10 l8, Ro.sl (Kd.int .u8) A9 C10 l8, Ro.sl (Kd.int .i64) (some ad1398) C14 l12] (by kernel_rfl) (by kernel_rfl) ?_
                  have hN : Region.noSelect C3.r.r.r.r.l.r.l.l.r.l.l.r.r.r.l.ops = true := (by kernel_rfl)
                  have hF : freeAll C3.r.r.r.r.l.r.l.l.r.l.l.r.r.r.l.ops = true := (by kernel_rfl)
                  have hC : Core B [Ass.box 103 g1013 [.int .u64 t1410], Ass.box 89 g1012 [.slice A1413 t1411.length C1414, .func (.func 46) #[.pointer (some ⟨g1013, 0, none⟩)] #[]], Ass.own 5 (Kd.int .u8) A1413 C1414 t1411] [Ro.sl (Kd.int .u8) A1170 C1171 x1169, Ro.sl (Kd.int .u8) A1020 C1021 t1017, Ro.sl (Kd.int .u8) A9 C10 l8, Ro.sl (Kd.int .u8) A9 C10 l8, Ro.sl (Kd.int .u8) A9 C10 l8, Ro.sl (Kd.int .i64) (some ad1398) C14 l12] _ := ⟨_, _, hS⟩
                  refine ED.quick hN hF hC [0, 1, 2] [2, 7, 8, 9, 10, 11, 47, 48, 49] 22 [(2, .slice (some ad1398) l12.length C14), (7, .pointer (some ⟨g1012, 0, none⟩)), (8, .pointer (some ⟨g1019, 0, none⟩)), (9, .int .i64 x1177), (10, .int .i64 x1401), (11, .int .i64 t1412), (47, .int .i64 t1412), (48, .pointer (some ⟨g1019, 0, none⟩)), (49, .int .i64 x1401)] #[true, true, true, false, false, false, false, false, false, false, false, false, false, false, false, false, false, false, false, false, false, false, false, false, false] (by kernel_rfl) (by kernel_rfl) ?_
                  have hS : St B _ (Ass.box 33 g1019 [.slice A1170 x1169.length C1171, .int .u64 x1172] :: Ass.box 103 g1013 [.int .u64 t1410] :: Ass.box 89 g1012 [.slice A1413 t1411.length C1414, .func (.func 46) #[.pointer (some ⟨g1013, 0, none⟩)] #[]] :: Ass.own 5 (Kd.int .u8) A1413 C1414 t1411 :: os) (Ro.sl (Kd.int .u8) A1170 C1171 x1169 :: Ro.sl (Kd.int .u8) A1170 C1171 x1169 :: Ro.sl (Kd.int .u8) A1020 C1021 t1017 :: Ro.sl (Kd.int .u8) A9 C10 l8 :: Ro.sl (Kd.int .u8) A9 C10 l8 :: Ro.sl (Kd.int .u8) A9 C10 l8 :: Ro.sl (Kd.int .i64) (some ad1398) C14 l12 :: rs) := hS.re [3] [] rfl (sub_cons 0 rfl sub_self)
                  refine ED.one 3 21 #[true, true, true, true, false, false, false, false, false, false, false, false, false, false, false, false, false, false, false, false, false, false, false, false, false] (by kernel_rfl) (by kernel_rfl) (by kernel_rfl) (EO.callD 17 [.pointer (some ⟨g1019, 0, none⟩), .int .i64 x1401] _ 50 (by kernel_rfl) (by kernel_rfl) (by kernel_rfl) (confidantref15_Picks_Next.calls hc1452 hS) ?_)
                  rintro v w ⟨A1485, C1486, rfl, hS⟩
                  have hC : Core B [Ass.box 103 g1013 [.int .u64 t1410], Ass.box 89 g1012 [.slice A1413 t1411.length C1414, .func (.func 46) #[.pointer (some ⟨g1013, 0, none⟩)] #[]], Ass.own 5 (Kd.int .u8) A1413 C1414 t1411] [Ro.sl (Kd.int .u8) A1170 C1171 x1169, Ro.sl (Kd.int .u8) A1020 C1021 t1017, Ro.sl (Kd.int .u8) A9 C10 l8, Ro.sl (Kd.int .u8) A9 C10 l8, Ro.sl (Kd.int .u8) A9 C10 l8, Ro.sl (Kd.int .i64) (some ad1398) C14 l12] _ := ⟨_, _, hS.re [3, 3, 3] [] rfl (sub_cons 1 rfl (sub_cons 3 rfl (sub_cons 4 rfl (sub_cons 4 rfl (sub_cons 4 rfl (sub_cons 7 rfl sub_self))))))⟩
                  refine ⟨hC, ?_⟩
                  refine ED.quick hN hF hC [4, 5] [2, 7, 8, 9, 10, 11, 52] 19 [(2, .slice (some ad1398) l12.length C14), (7, .pointer (some ⟨g1012, 0, none⟩)), (8, .pointer (some ⟨g1019, 0, none⟩)), (9, .int .i64 x1177), (10, .int .i64 x1401), (11, .int .i64 t1412), (52, .bool (!(decide (t1412 = t1449))))] #[true, true, true, true, true, true, false, false, false, false, false, false, false, false, false, false, false, false, false, false, false, false, false, false, false] (by kernel_rfl) (by kernel_rfl) ?_
                  refine ED.keep [2, 7, 8, 9, 10, 11, 52] [(2, .slice (some ad1398) l12.length C14), (7, .pointer (some ⟨g1012, 0, none⟩)), (8, .pointer (some ⟨g1019, 0, none⟩)), (9, .int .i64 x1177), (10, .int .i64 x1401), (11, .int .i64 t1412), (52, .bool (!(decide (t1412 = t1449))))] (by kernel_rfl) ?_
                  refine ED.as' [(2, .slice (some ad1398) l12.length C14), (7, .pointer (some ⟨g1012, 0, none⟩)), (8, .pointer (some ⟨g1019, 0, none⟩)), (9, .int .i64 x1177), (10, .int .i64 x1401), (11, .int .i64 t1412), (52, .bool (true))] (by simp only [dec_f h1453, Bool.not_true, Bool.not_false]) ?_
                  refine ED.quick hN hF hC [6, 7, 8, 9, 10, 11, 12, 13, 14, 15, 16, 17, 18, 19, 20, 21, 22, 23, 24] [2, 7, 8, 9, 53, 54, 55, 56, 57, 58, 59, 60, 63, 64, 67, 68, 69, 70, 71] 0 [(2, .slice (some ad1398) l12.length C14), (7, .pointer (some ⟨g1012, 0, none⟩)), (8, .pointer (some ⟨g1019, 0, none⟩)), (9, .int .i64 x1177), (53, undef), (54, undef), (55, undef), (56, undef), (57, undef), (58, undef), (59, undef), (60, undef), (63, undef), (64, undef), (67, undef), (68, undef), (69, undef), (70, undef), (71, .bool (true))] #[true, true, true, true, true, true, true, true, true, true, true, true, true, true, true, true, true, true, true, true, true, true, true, true, true] (by kernel_rfl) (by kernel_rfl) ?_
                  refine ED.done (by kernel_rfl) ?_
                  refine EQ.to ?_
                  refine EQ.keep [2, 7, 8, 9, 71] [(2, .slice (some ad1398) l12.length C14), (7, .pointer (some ⟨g1012, 0, none⟩)), (8, .pointer (some ⟨g1019, 0, none⟩)), (9, .int .i64 x1177), (71, .bool (true))] (by kernel_rfl) ?_
                  exact fun a ha => ⟨t1410, t1447, t1448, true, A1485, C1486, ha, (hS.re [0, 1, 3, 3] [] rfl (sub_cons 0 rfl (sub_cons 1 rfl (sub_cons 1 rfl (sub_cons 3 rfl (sub_cons 4 rfl (sub_cons 4 rfl (sub_cons 4 rfl (sub_cons 7 rfl (sub_tail (sub_tail (sub_tail (sub_tail (sub_tail (sub_tail (sub_tail (sub_tail (sub_self)))))))))))))))))), H⟩
              · obtain ⟨x1440, x1441, x1444, x1445, A1442, C1443, ha, hS, H⟩ := hI
                rw [hj1446] at H
                (try dsimp only at H)
                refine EW.at ?_ a ha
                clear ha a
                refine EW.condP' (o := (.tmp 71)) (x := C3.r.r.r.r.l.r.l.l.r.l.l.r.r.r.r.l) (y := C3.r.r.r.r.l.r.l.l.r.l.l.r.r.r.r.r) (x1445) (by kernel_rfl) (by kernel_rfl) (fun h1487 => ?_) (fun h1487 => ?_)
                · rw [if_pos h1487] at H
                  refine EW.seq (x := C3.r.r.r.r.l.r.l.l.r.l.l.r.r.r.r.l.l) (y := C3.r.r.r.r.l.r.l.l.r.l.l.r.r.r.r.l.r) (by kernel_rfl) ?_
                  refine EW.region (id := 14) (ops := C3.r.r.r.r.l.r.l.l.r.l.l.r.r.r.r.l.l.ops) (by kernel_rfl) ?_
                  refine EL.quick 1 [6] [(6, .bool (false))] (by kernel_rfl) ?_
                  refine EL.done (by kernel_rfl) ?_
                  refine EQ.code ?_
                  refine EW.ret (by kernel_rfl) ?_
                  refine EQ.ret ?_
                  refine EQ.ret ?_
                  refine EQ.ret ?_
                  refine EQ.ret ?_
                  refine EQ.ret ?_
                  obtain rfl := Option.some.inj H
                  exact EQ.leave (.bool (false)) (by kernel_rfl) ⟨_, rfl, rfl, (hS.re [] [0, 0, 0, 0] rfl (sub_tail (sub_tail (sub_tail (sub_tail (sub_tail (sub_tail (sub_self))))))))⟩
                · rw [if_neg h1487] at H
                  refine EW.skip (by kernel_rfl) ?_
                  refine EQ.pop ?_
                  refine EQ.code ?_
                  refine EW.region (id := 8) (ops := C3.r.r.r.r.l.r.l.l.r.r.ops) (by kernel_rfl) ?_
                  refine EL.quick 3 [2, 7, 8, 9] [(2, .slice (some ad1398) l12.length C14), (7, .pointer (some ⟨g1012, 0, none⟩)), (8, .pointer (some ⟨g1019, 0, none⟩)), (9, .int .i64 (IntKind.i64.wrap (x1177 + 1)))] (by kernel_rfl) ?_
                  refine EL.done (by kernel_rfl) ?_
                  refine EQ.to ?_
                  refine EQ.keep [2, 7, 8, 9] [(2, .slice (some ad1398) l12.length C14), (7, .pointer (some ⟨g1012, 0, none⟩)), (8, .pointer (some ⟨g1019, 0, none⟩)), (9, .int .i64 (IntKind.i64.wrap (x1177 + 1)))] (by kernel_rfl) ?_
                  exact fun a ha => ⟨n, Nat.lt_succ_self n, x1441, x1444, t1411, x1440, IntKind.i64.wrap (x1177 + 1), A1442, C1443, A1413, C1414, ha, (hS.re [1, 2, 2, 3] [] rfl (sub_cons 0 rfl (sub_cons 3 rfl (sub_cons 4 rfl (sub_cons 4 rfl (sub_cons 4 rfl (sub_cons 7 rfl (sub_tail (sub_tail (sub_tail (sub_tail (sub_tail (sub_tail (sub_tail (sub_tail (sub_self)))))))))))))))), H⟩
          · rw [if_neg h1329] at H
            refine EW.exit (id := 0) (by kernel_rfl) ?_
            refine EQ.exitCode ?_
            refine EQ.exitTo ?_
            refine EQ.exitHere ?_
            refine EQ.code ?_
            refine EW.seq (x := C3.r.r.r.r.r.l) (y := C3.r.r.r.r.r.r) (by kernel_rfl) ?_
            refine EW.region (id := 15) (ops := C3.r.r.r.r.r.l.ops) (by kernel_rfl) ?_
            refine EL.quick 1 [6] [(6, .bool (true))] (by kernel_rfl) ?_
            refine EL.done (by kernel_rfl) ?_
            refine EQ.code ?_
            refine EW.ret (by kernel_rfl) ?_
            obtain rfl := Option.some.inj H
            exact EQ.leave (.bool (true)) (by kernel_rfl) ⟨_, rfl, rfl, (hS.re [] [0, 0, 0, 0] rfl (sub_tail (sub_tail (sub_tail (sub_tail (sub_self))))))⟩
  · rw [if_neg h984] at H
    refine EW.seq (x := C3.r.l.r.l.l) (y := C3.r.l.r.l.r) (by kernel_rfl) ?_
    refine EW.region (id := 2) (ops := C3.r.l.r.l.l.ops) (by kernel_rfl) ?_
    refine EL.quick 1 [6] [(6, .bool (false))] (by kernel_rfl) ?_
    refine EL.done (by kernel_rfl) ?_
    refine EQ.code ?_
    refine EW.ret (by kernel_rfl) ?_
    refine EQ.ret ?_
    obtain rfl := Option.some.inj H
    exact EQ.leave (.bool (false)) (by kernel_rfl) ⟨_, rfl, rfl, (hS.re [] [] rfl (sub_self))⟩

def confidantlaw17_PicksTell.Pure : Prop := ∀ (l8 : List Int) (a11 : Int) (l12 : List Int), l8.length * 1 ≤ 140737488351232 → (∀ x ∈ l8, (Lit.int .u8 x).wf = true) → (Lit.int .u64 a11).wf = true → l12.length * 8 ≤ 140737488351232 → (∀ x ∈ l12, (Lit.int .i64 x).wf = true) → ∃ K, confidantlaw17_PicksTell.f K l8 a11 l12 = some true

noncomputable def C4 : Code := bodyOf Try.f4

end Go.Proofs.Ytifnjijlbcacoaa.G
