import Derived.Test.YtepokhmomojcmaaProg
import Derived.Test.YtepokhmomojcmaaFwMut
namespace Go.Proofs.Ytepokhmomojcmaa.G
open Go Go.Fw Go.RowKit Go.Proofs
set_option linter.unusedVariables false
set_option linter.unusedSimpArgs false

noncomputable def C3 : Code := bodyOf Try.f3

noncomputable def C14 : Code := bodyOf Try.f14

noncomputable def C15 : Code := bodyOf Try.f15

noncomputable def C16 : Code := bodyOf Try.f16

noncomputable def C17 : Code := bodyOf Try.f17

noncomputable def C18 : Code := bodyOf Try.f18

noncomputable def C19 : Code := bodyOf Try.f19

/-! ### confidant/rng.New: function 15 -/
def rng_New.f (K : Nat) (a11 : Int) : Option Int := some (mx a11 1)
set_option maxRecDepth 100000 in
theorem rng_New.calls {K : Nat} {a11 : Int} {x14 : Int} {B w : World} {os : List Ass} {rs : List Ro} (H : rng_New.f K a11 = some x14) (hS : St B w (os) (rs)) :
    Calls Try.prog 15 [.int .u64 a11].toArray w (fun en w' => ∃ v, en = .returned v ∧ ∃ g13 : Nat, v = .pointer (some ⟨g13, 0, none⟩) ∧ St B w' (Ass.box 59 g13 [.int .u64 x14] :: os) (rs)) := by
  unfold rng_New.f at H
  refine calls_of_EW (args := [.int .u64 a11]) (c := C15) 7 Try.func15 (by kernel_rfl) (by kernel_rfl) (by kernel_rfl) ?_
  refine EW.seq (x := C15.l) (y := C15.r) (by kernel_rfl) ?_
  refine EW.region (id := 0) (ops := C15.l.ops) (by kernel_rfl) ?_
  refine EL.quick 1 [0] [(0, .int .u64 a11)] (by kernel_rfl) ?_
  refine EL.done (by kernel_rfl) ?_
  refine EQ.code ?_
  refine EW.seq (x := C15.r.l) (y := C15.r.r) (by kernel_rfl) ?_
  refine EW.region (id := 1) (ops := C15.r.l.ops) (by kernel_rfl) ?_
  refine EL.quick 3 [5] [(5, .agg #[.int .u64 (mx a11 1)])] (by kernel_rfl) ?_
  refine EL.of (EO.box hS 59 (.agg #[.int .u64 (mx a11 1)]) [.int .u64 (mx a11 1)] 6 (by kernel_rfl) (by kernel_rfl) (by kernel_rfl) (by first | rfl | kernel_rfl) ?_)
  intro g15 w hS
  refine EL.quick 1 [2] [(2, .pointer (some ⟨g15, 0, none⟩))] (by kernel_rfl) ?_
  refine EL.done (by kernel_rfl) ?_
  refine EQ.code ?_
  refine EW.ret (by kernel_rfl) ?_
  obtain rfl := Option.some.inj H
  exact EQ.leave (.pointer (some ⟨g15, 0, none⟩)) (by kernel_rfl) ⟨_, rfl, g15, rfl, (hS.re [0] [] rfl (sub_self))⟩

/-! ### confidant/rng.Step: function 19 -/
def rng_Step.f (K : Nat) (a28 : Int) : Option Int := lt (bX .u64 (bX .u64 a28 (sL .u64 a28 13)) (sR .u64 (bX .u64 a28 (sL .u64 a28 13)) 7)) fun y33 => (some (bX .u64 y33 (sL .u64 y33 17)))
set_option maxRecDepth 100000 in
theorem rng_Step.calls {K : Nat} {a28 : Int} {x31 : Int} {B w : World} {os : List Ass} {rs : List Ro} (H : rng_Step.f K a28 = some x31) (hS : St B w (os) (rs)) :
    Calls Try.prog 19 [.int .u64 a28].toArray w (fun en w' => ∃ v, en = .returned v ∧ v = .int .u64 x31 ∧ St B w' (os) (rs)) := by
  unfold rng_Step.f at H
  refine calls_of_EW (args := [.int .u64 a28]) (c := C19) 15 Try.func19 (by kernel_rfl) (by kernel_rfl) (by kernel_rfl) ?_
  refine EW.seq (x := C19.l) (y := C19.r) (by kernel_rfl) ?_
  refine EW.region (id := 0) (ops := C19.l.ops) (by kernel_rfl) ?_
  refine EL.quick 1 [0] [(0, .int .u64 a28)] (by kernel_rfl) ?_
  refine EL.done (by kernel_rfl) ?_
  refine EQ.code ?_
  refine EW.seq (x := C19.r.l) (y := C19.r.r) (by kernel_rfl) ?_
  refine EW.region (id := 1) (ops := C19.r.l.ops) (by kernel_rfl) ?_
  refine EL.quick 5 [0] [(0, .int .u64 (bX .u64 a28 (sL .u64 a28 13)))] (by kernel_rfl) ?_
  refine EL.done (by kernel_rfl) ?_
  refine EQ.code ?_
  refine EW.seq (x := C19.r.r.l) (y := C19.r.r.r) (by kernel_rfl) ?_
  refine EW.region (id := 2) (ops := C19.r.r.l.ops) (by kernel_rfl) ?_
  refine EL.quick 5 [0] [(0, .int .u64 (bX .u64 (bX .u64 a28 (sL .u64 a28 13)) (sR .u64 (bX .u64 a28 (sL .u64 a28 13)) 7)))] (by kernel_rfl) ?_
  obtain ⟨y33, hy33, H⟩ := lt_out H
  refine EL.keep [0] [(0, .int .u64 (bX .u64 (bX .u64 a28 (sL .u64 a28 13)) (sR .u64 (bX .u64 a28 (sL .u64 a28 13)) 7)))] (by kernel_rfl) ?_
  refine EL.as' [(0, .int .u64 y33)] (by subst hy33; rfl) ?_
  refine EL.done (by kernel_rfl) ?_
  refine EQ.code ?_
  refine EW.seq (x := C19.r.r.r.l) (y := C19.r.r.r.r) (by kernel_rfl) ?_
  refine EW.region (id := 3) (ops := C19.r.r.r.l.ops) (by kernel_rfl) ?_
  refine EL.quick 5 [2] [(2, .int .u64 (bX .u64 y33 (sL .u64 y33 17)))] (by kernel_rfl) ?_
  refine EL.done (by kernel_rfl) ?_
  refine EQ.code ?_
  refine EW.ret (by kernel_rfl) ?_
  obtain rfl := Option.some.inj H
  exact EQ.leave (.int .u64 (bX .u64 y33 (sL .u64 y33 17))) (by kernel_rfl) ⟨_, rfl, rfl, (hS.re [] [] rfl (sub_self))⟩

/-! ### confidant/confidantref15.Step: function 16 -/
def confidantref15_Step.f (K : Nat) (a36 : Int) : Option Int := lt (bX .u64 (bX .u64 a36 (sL .u64 a36 13)) (sR .u64 (bX .u64 a36 (sL .u64 a36 13)) 7)) fun y41 => (some (bX .u64 y41 (sL .u64 y41 17)))
set_option maxRecDepth 100000 in
theorem confidantref15_Step.calls {K : Nat} {a36 : Int} {x39 : Int} {B w : World} {os : List Ass} {rs : List Ro} (H : confidantref15_Step.f K a36 = some x39) (hS : St B w (os) (rs)) :
    Calls Try.prog 16 [.int .u64 a36].toArray w (fun en w' => ∃ v, en = .returned v ∧ v = .int .u64 x39 ∧ St B w' (os) (rs)) := by
  unfold confidantref15_Step.f at H
  refine calls_of_EW (args := [.int .u64 a36]) (c := C16) 16 Try.func16 (by kernel_rfl) (by kernel_rfl) (by kernel_rfl) ?_
  refine EW.seq (x := C16.l) (y := C16.r) (by kernel_rfl) ?_
  refine EW.region (id := 0) (ops := C16.l.ops) (by kernel_rfl) ?_
  refine EL.quick 1 [0] [(0, .int .u64 a36)] (by kernel_rfl) ?_
  refine EL.done (by kernel_rfl) ?_
  refine EQ.code ?_
  refine EW.seq (x := C16.r.l) (y := C16.r.r) (by kernel_rfl) ?_
  refine EW.region (id := 1) (ops := C16.r.l.ops) (by kernel_rfl) ?_
  refine EL.quick 5 [0] [(0, .int .u64 (bX .u64 a36 (sL .u64 a36 13)))] (by kernel_rfl) ?_
  refine EL.done (by kernel_rfl) ?_
  refine EQ.code ?_
  refine EW.seq (x := C16.r.r.l) (y := C16.r.r.r) (by kernel_rfl) ?_
  refine EW.region (id := 2) (ops := C16.r.r.l.ops) (by kernel_rfl) ?_
  refine EL.quick 5 [0] [(0, .int .u64 (bX .u64 (bX .u64 a36 (sL .u64 a36 13)) (sR .u64 (bX .u64 a36 (sL .u64 a36 13)) 7)))] (by kernel_rfl) ?_
  obtain ⟨y41, hy41, H⟩ := lt_out H
  refine EL.keep [0] [(0, .int .u64 (bX .u64 (bX .u64 a36 (sL .u64 a36 13)) (sR .u64 (bX .u64 a36 (sL .u64 a36 13)) 7)))] (by kernel_rfl) ?_
  refine EL.as' [(0, .int .u64 y41)] (by subst hy41; rfl) ?_
  refine EL.done (by kernel_rfl) ?_
  refine EQ.code ?_
  refine EW.seq (x := C16.r.r.r.l) (y := C16.r.r.r.r) (by kernel_rfl) ?_
  refine EW.region (id := 3) (ops := C16.r.r.r.l.ops) (by kernel_rfl) ?_
  refine EL.quick 5 [0] [(0, .int .u64 (bX .u64 y41 (sL .u64 y41 17)))] (by kernel_rfl) ?_
  refine EL.done (by kernel_rfl) ?_
  refine EQ.code ?_
  refine EW.seq (x := C16.r.r.r.r.l) (y := C16.r.r.r.r.r) (by kernel_rfl) ?_
  refine EW.region (id := 4) (ops := C16.r.r.r.r.l.ops) (by kernel_rfl) ?_
  refine EL.quick 2 [2] [(2, .int .u64 (bX .u64 y41 (sL .u64 y41 17)))] (by kernel_rfl) ?_
  refine EL.done (by kernel_rfl) ?_
  refine EQ.code ?_
  refine EW.ret (by kernel_rfl) ?_
  obtain rfl := Option.some.inj H
  exact EQ.leave (.int .u64 (bX .u64 y41 (sL .u64 y41 17))) (by kernel_rfl) ⟨_, rfl, rfl, (hS.re [] [] rfl (sub_self))⟩

/-! ### (*confidant/rng.Rng).Next: function 17 -/
def rng_Rng_Next.f (K : Nat) (a50 : Int) : Option (Int × Int) := b1 (rng_Step.f K a50) fun (t59 : Int) => (some (t59, t59))
set_option maxRecDepth 100000 in
theorem rng_Rng_Next.calls {K : Nat} {a50 : Int} {g49 : Nat} {x55 : Int} {x56 : Int} {B w : World} {os : List Ass} {rs : List Ro} (H : rng_Rng_Next.f K a50 = some (x55, x56)) (hS : St B w (Ass.box 59 g49 [.int .u64 a50] :: os) (rs)) :
    Calls Try.prog 17 [.pointer (some ⟨g49, 0, none⟩)].toArray w (fun en w' => ∃ v, en = .returned v ∧ v = .int .u64 x56 ∧ St B w' (Ass.box 59 g49 [.int .u64 x55] :: os) (rs)) := by
  unfold rng_Rng_Next.f at H
  refine calls_of_EW (args := [.pointer (some ⟨g49, 0, none⟩)]) (c := C17) 15 Try.func17 (by kernel_rfl) (by kernel_rfl) (by kernel_rfl) ?_
  refine EW.seq (x := C17.l) (y := C17.r) (by kernel_rfl) ?_
  refine EW.region (id := 0) (ops := C17.l.ops) (by kernel_rfl) ?_
  refine EL.quick 1 [0] [(0, .pointer (some ⟨g49, 0, none⟩))] (by kernel_rfl) ?_
  refine EL.done (by kernel_rfl) ?_
  refine EQ.code ?_
  refine EW.seq (x := C17.r.l) (y := C17.r.r) (by kernel_rfl) ?_
  refine EW.region (id := 1) (ops := C17.r.l.ops) (by kernel_rfl) ?_
  refine EL.quick 4 [0, 3, 6] [(0, .pointer (some ⟨g49, 0, none⟩)), (3, .pointer (some ⟨g49, 0, none⟩)), (6, .pointer (some ⟨g49, 0, none⟩))] (by kernel_rfl) ?_
  refine EL.of (EO.Y (YO.loadBox hS 0 rfl 22 0 1 (.int .u64 a50) 7 (by kernel_rfl) (by kernel_rfl) (by kernel_rfl) (by kernel_rfl)) ?_)
  obtain ⟨t59, hc60, H⟩ := b1_out H
  refine EL.of (EO.callD 19 [.int .u64 a50] _ 8 (by kernel_rfl) (by kernel_rfl) (by kernel_rfl) (rng_Step.calls hc60 hS) ?_)
  rintro v w ⟨rfl, hS⟩
  refine EL.quick 2 [0, 8, 10] [(0, .pointer (some ⟨g49, 0, none⟩)), (8, .int .u64 t59), (10, .pointer (some ⟨g49, 0, none⟩))] (by kernel_rfl) ?_
  refine EL.of (EO.storeBox (os' := Ass.box 59 g49 [.int .u64 t59] :: os) hS 0 rfl 22 0 (.int .u64 t59) [.int .u64 t59] (by kernel_rfl) (by kernel_rfl) (by kernel_rfl) (by kernel_rfl) (by kernel_rfl) (by kernel_rfl) rfl rfl ?_)
  intro w hS
  refine EL.done (by kernel_rfl) ?_
  refine EQ.code ?_
  refine EW.seq (x := C17.r.r.l) (y := C17.r.r.r) (by kernel_rfl) ?_
  refine EW.region (id := 2) (ops := C17.r.r.l.ops) (by kernel_rfl) ?_
  refine EL.quick 3 [13] [(13, .pointer (some ⟨g49, 0, none⟩))] (by kernel_rfl) ?_
  refine EL.of (EO.Y (YO.loadBox hS 0 rfl 22 0 1 (.int .u64 t59) 14 (by kernel_rfl) (by kernel_rfl) (by kernel_rfl) (by kernel_rfl)) ?_)
  refine EL.quick 1 [2] [(2, .int .u64 t59)] (by kernel_rfl) ?_
  refine EL.done (by kernel_rfl) ?_
  refine EQ.code ?_
  refine EW.ret (by kernel_rfl) ?_
  simp only [Option.some.injEq, Prod.mk.injEq] at H
  obtain ⟨rfl, rfl⟩ := H
  exact EQ.leave (.int .u64 t59) (by kernel_rfl) ⟨_, rfl, rfl, (hS.re [0] [] rfl (sub_self))⟩

/-! ### (*confidant/rng.Rng).Below: function 18 -/
def rng_Rng_Below.f (K : Nat) (a70 : Int) (a71 : Int) : Option (Int × Int) := if a71 < 1 then (some (a70, 0)) else (b2 (rng_Rng_Next.f K a70) fun (t82 : Int) (t83 : Int) => (if (IntKind.u64.wrap a71) = 0 then none else (some (t82, IntKind.i64.wrap (Int.tmod t83 (IntKind.u64.wrap a71))))))
set_option maxRecDepth 100000 in
theorem rng_Rng_Below.calls {K : Nat} {a70 : Int} {a71 : Int} {g69 : Nat} {x78 : Int} {x79 : Int} {B w : World} {os : List Ass} {rs : List Ro} (H : rng_Rng_Below.f K a70 a71 = some (x78, x79)) (hS : St B w (Ass.box 59 g69 [.int .u64 a70] :: os) (rs)) :
    Calls Try.prog 18 [.pointer (some ⟨g69, 0, none⟩), .int .i64 a71].toArray w (fun en w' => ∃ v, en = .returned v ∧ v = .int .i64 x79 ∧ St B w' (Ass.box 59 g69 [.int .u64 x78] :: os) (rs)) := by
  unfold rng_Rng_Below.f at H
  refine calls_of_EW (args := [.pointer (some ⟨g69, 0, none⟩), .int .i64 a71]) (c := C18) 13 Try.func18 (by kernel_rfl) (by kernel_rfl) (by kernel_rfl) ?_
  refine EW.seq (x := C18.l) (y := C18.r) (by kernel_rfl) ?_
  refine EW.region (id := 0) (ops := C18.l.ops) (by kernel_rfl) ?_
  refine EL.quick 1 [0, 1] [(0, .pointer (some ⟨g69, 0, none⟩)), (1, .int .i64 a71)] (by kernel_rfl) ?_
  refine EL.done (by kernel_rfl) ?_
  refine EQ.code ?_
  refine EW.seq (x := C18.r.l) (y := C18.r.r) (by kernel_rfl) ?_
  refine EW.seq (x := C18.r.l.l) (y := C18.r.l.r) (by kernel_rfl) ?_
  refine EW.region (id := 1) (ops := C18.r.l.l.ops) (by kernel_rfl) ?_
  refine EL.quick 2 [0, 1, 6] [(0, .pointer (some ⟨g69, 0, none⟩)), (1, .int .i64 a71), (6, .bool (decide (a71 < 1)))] (by kernel_rfl) ?_
  refine EL.done (by kernel_rfl) ?_
  refine EQ.code ?_
  refine EW.condP (o := (.tmp 6)) (x := C18.r.l.r.l) (y := C18.r.l.r.r) (a71 < 1) (by kernel_rfl) (by kernel_rfl) (fun h81 => ?_) (fun h81 => ?_)
  · rw [if_pos h81] at H
    refine EW.seq (x := C18.r.l.r.l.l) (y := C18.r.l.r.l.r) (by kernel_rfl) ?_
    refine EW.region (id := 2) (ops := C18.r.l.r.l.l.ops) (by kernel_rfl) ?_
    refine EL.quick 1 [4] [(4, .int .i64 0)] (by kernel_rfl) ?_
    refine EL.done (by kernel_rfl) ?_
    refine EQ.code ?_
    refine EW.ret (by kernel_rfl) ?_
    refine EQ.ret ?_
    simp only [Option.some.injEq, Prod.mk.injEq] at H
    obtain ⟨rfl, rfl⟩ := H
    exact EQ.leave (.int .i64 0) (by kernel_rfl) ⟨_, rfl, rfl, (hS.re [0] [] rfl (sub_self))⟩
  · rw [if_neg h81] at H
    refine EW.skip (by kernel_rfl) ?_
    refine EQ.code ?_
    refine EW.seq (x := C18.r.r.l) (y := C18.r.r.r) (by kernel_rfl) ?_
    refine EW.region (id := 3) (ops := C18.r.r.l.ops) (by kernel_rfl) ?_
    refine EL.quick 1 [1, 7] [(1, .int .i64 a71), (7, .pointer (some ⟨g69, 0, none⟩))] (by kernel_rfl) ?_
    obtain ⟨t82, t83, hc84, H⟩ := b2_out H
    refine EL.of (EO.callD 17 [.pointer (some ⟨g69, 0, none⟩)] _ 8 (by kernel_rfl) (by kernel_rfl) (by kernel_rfl) (rng_Rng_Next.calls hc84 hS) ?_)
    rintro v w ⟨rfl, hS⟩
    refine EL.quick 2 [8, 10] [(8, .int .u64 t83), (10, .int .u64 (IntKind.u64.wrap a71))] (by kernel_rfl) ?_
    obtain ⟨h85, H⟩ := ite_out H
    refine EL.of (EO.Y (YO.div .rem .u64 t83 (IntKind.u64.wrap a71) (Int.tmod t83 (IntKind.u64.wrap a71)) 11 (by kernel_rfl) (by kernel_rfl) (by kernel_rfl) h85 (by first | exact .inl ⟨rfl, rfl⟩ | exact .inr ⟨rfl, rfl⟩)) ?_)
    refine EL.quick 2 [4] [(4, .int .i64 (IntKind.i64.wrap (Int.tmod t83 (IntKind.u64.wrap a71))))] (by kernel_rfl) ?_
    refine EL.done (by kernel_rfl) ?_
    refine EQ.code ?_
    refine EW.ret (by kernel_rfl) ?_
    simp only [Option.some.injEq, Prod.mk.injEq] at H
    obtain ⟨rfl, rfl⟩ := H
    exact EQ.leave (.int .i64 (IntKind.i64.wrap (Int.tmod t83 (IntKind.u64.wrap a71)))) (by kernel_rfl) ⟨_, rfl, rfl, (hS.re [0] [] rfl (sub_self))⟩

/-! ### confidant/confidantlaw16.known: function 14 -/
def confidantlaw16_known.f (K : Nat)  : Option Bool := b1 (rng_New.f K 0) fun (t103 : Int) => (b1 (rng_New.f K 1) fun (t106 : Int) => (b1 (rng_Step.f K 1) fun (t109 : Int) => (b1 (confidantref15_Step.f K 1) fun (t111 : Int) => (if t109 = t111 then (b1 (rng_Step.f K 1) fun (t114 : Int) => (if t114 = 1 then (some false) else (b2 (rng_Rng_Next.f K t103) fun (t117 : Int) (t118 : Int) => (b2 (rng_Rng_Next.f K t106) fun (t120 : Int) (t121 : Int) => (if t118 = t121 then (b2 (rng_Rng_Below.f K t117 0) fun (t124 : Int) (t125 : Int) => (if t125 = 0 then (b2 (rng_Rng_Next.f K t124) fun (t128 : Int) (t129 : Int) => (b2 (rng_Rng_Next.f K t120) fun (t131 : Int) (t132 : Int) => (some (decide (t129 = t132))))) else (some false))) else (some false)))))) else (some false)))))
set_option maxRecDepth 100000 in
theorem confidantlaw16_known.calls {K : Nat} {x96 : Bool} {B w : World} {os : List Ass} {rs : List Ro} (H : confidantlaw16_known.f K = some x96) (hS : St B w (os) (rs)) :
    Calls Try.prog 14 [].toArray w (fun en w' => ∃ v, en = .returned v ∧ v = .bool (x96) ∧ St B w' (os) (rs)) := by
  unfold confidantlaw16_known.f at H
  refine calls_of_EW (args := []) (c := C14) 37 Try.func14 (by kernel_rfl) (by kernel_rfl) (by kernel_rfl) ?_
  refine EW.seq (x := C14.l) (y := C14.r) (by kernel_rfl) ?_
  refine EW.region (id := 0) (ops := C14.l.ops) (by kernel_rfl) ?_
  refine EL.quick 1 [] [] (by kernel_rfl) ?_
  refine EL.done (by kernel_rfl) ?_
  refine EQ.code ?_
  refine EW.seq (x := C14.r.l) (y := C14.r.r) (by kernel_rfl) ?_
  refine EW.region (id := 1) (ops := C14.r.l.ops) (by kernel_rfl) ?_
  obtain ⟨t103, hc105, H⟩ := b1_out H
  refine EL.of (EO.callD 15 [.int .u64 0] _ 3 (by kernel_rfl) (by kernel_rfl) (by kernel_rfl) (rng_New.calls hc105 hS) ?_)
  rintro v w ⟨g104, rfl, hS⟩
  obtain ⟨t106, hc108, H⟩ := b1_out H
  refine EL.of (EO.callD 15 [.int .u64 1] _ 4 (by kernel_rfl) (by kernel_rfl) (by kernel_rfl) (rng_New.calls hc108 hS) ?_)
  rintro v w ⟨g107, rfl, hS⟩
  refine EL.quick 2 [1, 2] [(1, .pointer (some ⟨g104, 0, none⟩)), (2, .pointer (some ⟨g107, 0, none⟩))] (by kernel_rfl) ?_
  refine EL.done (by kernel_rfl) ?_
  refine EQ.code ?_
  refine EW.seq (x := C14.r.r.l) (y := C14.r.r.r) (by kernel_rfl) ?_
  refine EW.seq (x := C14.r.r.l.l) (y := C14.r.r.l.r) (by kernel_rfl) ?_
  refine EW.region (id := 2) (ops := C14.r.r.l.l.ops) (by kernel_rfl) ?_
  refine EL.quick 6 [1, 2, 10] [(1, .pointer (some ⟨g104, 0, none⟩)), (2, .pointer (some ⟨g107, 0, none⟩)), (10, .bool (false))] (by kernel_rfl) ?_
  refine EL.done (by kernel_rfl) ?_
  refine EQ.code ?_
  refine EW.condF (o := (.tmp 10)) (x := C14.r.r.l.r.l) (y := C14.r.r.l.r.r) (by kernel_rfl) (by kernel_rfl) ?_
  refine EW.skip (by kernel_rfl) ?_
  refine EQ.code ?_
  refine EW.seq (x := C14.r.r.r.l) (y := C14.r.r.r.r) (by kernel_rfl) ?_
  refine EW.region (id := 4) (ops := C14.r.r.r.l.ops) (by kernel_rfl) ?_
  obtain ⟨t109, hc110, H⟩ := b1_out H
  refine EL.of (EO.callD 19 [.int .u64 1] _ 11 (by kernel_rfl) (by kernel_rfl) (by kernel_rfl) (rng_Step.calls hc110 hS) ?_)
  rintro v w ⟨rfl, hS⟩
  obtain ⟨t111, hc112, H⟩ := b1_out H
  refine EL.of (EO.callD 16 [.int .u64 1] _ 12 (by kernel_rfl) (by kernel_rfl) (by kernel_rfl) (confidantref15_Step.calls hc112 hS) ?_)
  rintro v w ⟨rfl, hS⟩
  refine EL.quick 2 [1, 2, 14] [(1, .pointer (some ⟨g104, 0, none⟩)), (2, .pointer (some ⟨g107, 0, none⟩)), (14, .bool (decide (t109 = t111)))] (by kernel_rfl) ?_
  by_cases h113 : t109 = t111
  · rw [if_pos h113] at H
    refine EL.keep [1, 2, 14] [(1, .pointer (some ⟨g104, 0, none⟩)), (2, .pointer (some ⟨g107, 0, none⟩)), (14, .bool (decide (t109 = t111)))] (by kernel_rfl) ?_
    refine EL.as' [(1, .pointer (some ⟨g104, 0, none⟩)), (2, .pointer (some ⟨g107, 0, none⟩)), (14, .bool (true))] (by simp only [dec_t h113, Bool.not_true, Bool.not_false]) ?_
    obtain ⟨t114, hc115, H⟩ := b1_out H
    refine EL.of (EO.callD 19 [.int .u64 1] _ 15 (by kernel_rfl) (by kernel_rfl) (by kernel_rfl) (rng_Step.calls hc115 hS) ?_)
    rintro v w ⟨rfl, hS⟩
    refine EL.quick 3 [1, 2, 18] [(1, .pointer (some ⟨g104, 0, none⟩)), (2, .pointer (some ⟨g107, 0, none⟩)), (18, .bool (!(decide (t114 = 1))))] (by kernel_rfl) ?_
    by_cases h116 : t114 = 1
    · rw [if_pos h116] at H
      refine EL.keep [1, 2, 18] [(1, .pointer (some ⟨g104, 0, none⟩)), (2, .pointer (some ⟨g107, 0, none⟩)), (18, .bool (!(decide (t114 = 1))))] (by kernel_rfl) ?_
      refine EL.as' [(1, .pointer (some ⟨g104, 0, none⟩)), (2, .pointer (some ⟨g107, 0, none⟩)), (18, .bool (false))] (by simp only [dec_t h116, Bool.not_true, Bool.not_false]) ?_
      refine EL.quick 19 [0] [(0, .bool (false))] (by kernel_rfl) ?_
      refine EL.done (by kernel_rfl) ?_
      refine EQ.code ?_
      refine EW.ret (by kernel_rfl) ?_
      obtain rfl := Option.some.inj H
      exact EQ.leave (.bool (false)) (by kernel_rfl) ⟨_, rfl, rfl, (hS.re [] [0, 0] rfl (sub_self))⟩
    · rw [if_neg h116] at H
      refine EL.keep [1, 2, 18] [(1, .pointer (some ⟨g104, 0, none⟩)), (2, .pointer (some ⟨g107, 0, none⟩)), (18, .bool (!(decide (t114 = 1))))] (by kernel_rfl) ?_
      refine EL.as' [(1, .pointer (some ⟨g104, 0, none⟩)), (2, .pointer (some ⟨g107, 0, none⟩)), (18, .bool (true))] (by simp only [dec_f h116, Bool.not_true, Bool.not_false]) ?_
      refine EL.quick 1 [1, 2, 18, 19] [(1, .pointer (some ⟨g104, 0, none⟩)), (2, .pointer (some ⟨g107, 0, none⟩)), (18, .bool (true)), (19, .pointer (some ⟨g104, 0, none⟩))] (by kernel_rfl) ?_
      have hS : St B _ (Ass.box 59 g104 [.int .u64 t103] :: Ass.box 59 g107 [.int .u64 t106] :: os) (rs) := hS.re [1] [] rfl sub_self
      obtain ⟨t117, t118, hc119, H⟩ := b2_out H
      refine EL.of (EO.callD 17 [.pointer (some ⟨g104, 0, none⟩)] _ 20 (by kernel_rfl) (by kernel_rfl) (by kernel_rfl) (rng_Rng_Next.calls hc119 hS) ?_)
      rintro v w ⟨rfl, hS⟩
      refine EL.quick 1 [1, 2, 18, 20, 21] [(1, .pointer (some ⟨g104, 0, none⟩)), (2, .pointer (some ⟨g107, 0, none⟩)), (18, .bool (true)), (20, .int .u64 t118), (21, .pointer (some ⟨g107, 0, none⟩))] (by kernel_rfl) ?_
      have hS : St B _ (Ass.box 59 g107 [.int .u64 t106] :: Ass.box 59 g104 [.int .u64 t117] :: os) (rs) := hS.re [1] [] rfl sub_self
      obtain ⟨t120, t121, hc122, H⟩ := b2_out H
      refine EL.of (EO.callD 17 [.pointer (some ⟨g107, 0, none⟩)] _ 22 (by kernel_rfl) (by kernel_rfl) (by kernel_rfl) (rng_Rng_Next.calls hc122 hS) ?_)
      rintro v w ⟨rfl, hS⟩
      refine EL.quick 3 [1, 2, 25] [(1, .pointer (some ⟨g104, 0, none⟩)), (2, .pointer (some ⟨g107, 0, none⟩)), (25, .bool (decide (t118 = t121)))] (by kernel_rfl) ?_
      by_cases h123 : t118 = t121
      · rw [if_pos h123] at H
        refine EL.keep [1, 2, 25] [(1, .pointer (some ⟨g104, 0, none⟩)), (2, .pointer (some ⟨g107, 0, none⟩)), (25, .bool (decide (t118 = t121)))] (by kernel_rfl) ?_
        refine EL.as' [(1, .pointer (some ⟨g104, 0, none⟩)), (2, .pointer (some ⟨g107, 0, none⟩)), (25, .bool (true))] (by simp only [dec_t h123, Bool.not_true, Bool.not_false]) ?_
        refine EL.quick 1 [1, 2, 25, 26] [(1, .pointer (some ⟨g104, 0, none⟩)), (2, .pointer (some ⟨g107, 0, none⟩)), (25, .bool (true)), (26, .pointer (some ⟨g104, 0, none⟩))] (by kernel_rfl) ?_
        have hS : St B _ (Ass.box 59 g104 [.int .u64 t117] :: Ass.box 59 g107 [.int .u64 t120] :: os) (rs) := hS.re [1] [] rfl sub_self
        obtain ⟨t124, t125, hc126, H⟩ := b2_out H
        refine EL.of (EO.callD 18 [.pointer (some ⟨g104, 0, none⟩), .int .i64 0] _ 27 (by kernel_rfl) (by kernel_rfl) (by kernel_rfl) (rng_Rng_Below.calls hc126 hS) ?_)
        rintro v w ⟨rfl, hS⟩
        refine EL.quick 3 [1, 2, 30] [(1, .pointer (some ⟨g104, 0, none⟩)), (2, .pointer (some ⟨g107, 0, none⟩)), (30, .bool (decide (t125 = 0)))] (by kernel_rfl) ?_
        by_cases h127 : t125 = 0
        · rw [if_pos h127] at H
          refine EL.keep [1, 2, 30] [(1, .pointer (some ⟨g104, 0, none⟩)), (2, .pointer (some ⟨g107, 0, none⟩)), (30, .bool (decide (t125 = 0)))] (by kernel_rfl) ?_
          refine EL.as' [(1, .pointer (some ⟨g104, 0, none⟩)), (2, .pointer (some ⟨g107, 0, none⟩)), (30, .bool (true))] (by simp only [dec_t h127, Bool.not_true, Bool.not_false]) ?_
          refine EL.quick 1 [2, 30, 31] [(2, .pointer (some ⟨g107, 0, none⟩)), (30, .bool (true)), (31, .pointer (some ⟨g104, 0, none⟩))] (by kernel_rfl) ?_
          obtain ⟨t128, t129, hc130, H⟩ := b2_out H
          refine EL.of (EO.callD 17 [.pointer (some ⟨g104, 0, none⟩)] _ 32 (by kernel_rfl) (by kernel_rfl) (by kernel_rfl) (rng_Rng_Next.calls hc130 hS) ?_)
          rintro v w ⟨rfl, hS⟩
          refine EL.quick 1 [30, 32, 33] [(30, .bool (true)), (32, .int .u64 t129), (33, .pointer (some ⟨g107, 0, none⟩))] (by kernel_rfl) ?_
          have hS : St B _ (Ass.box 59 g107 [.int .u64 t120] :: Ass.box 59 g104 [.int .u64 t128] :: os) (rs) := hS.re [1] [] rfl sub_self
          obtain ⟨t131, t132, hc133, H⟩ := b2_out H
          refine EL.of (EO.callD 17 [.pointer (some ⟨g107, 0, none⟩)] _ 34 (by kernel_rfl) (by kernel_rfl) (by kernel_rfl) (rng_Rng_Next.calls hc133 hS) ?_)
          rintro v w ⟨rfl, hS⟩
          refine EL.quick 3 [0] [(0, .bool (decide (t129 = t132)))] (by kernel_rfl) ?_
          refine EL.done (by kernel_rfl) ?_
          refine EQ.code ?_
          refine EW.ret (by kernel_rfl) ?_
          obtain rfl := Option.some.inj H
          exact EQ.leave (.bool (decide (t129 = t132))) (by kernel_rfl) ⟨_, rfl, rfl, (hS.re [] [0, 0] rfl (sub_self))⟩
        · rw [if_neg h127] at H
          refine EL.keep [1, 2, 30] [(1, .pointer (some ⟨g104, 0, none⟩)), (2, .pointer (some ⟨g107, 0, none⟩)), (30, .bool (decide (t125 = 0)))] (by kernel_rfl) ?_
          refine EL.as' [(1, .pointer (some ⟨g104, 0, none⟩)), (2, .pointer (some ⟨g107, 0, none⟩)), (30, .bool (false))] (by simp only [dec_f h127, Bool.not_true, Bool.not_false]) ?_
          refine EL.quick 7 [0] [(0, .bool (false))] (by kernel_rfl) ?_
          refine EL.done (by kernel_rfl) ?_
          refine EQ.code ?_
          refine EW.ret (by kernel_rfl) ?_
          obtain rfl := Option.some.inj H
          exact EQ.leave (.bool (false)) (by kernel_rfl) ⟨_, rfl, rfl, (hS.re [] [0, 0] rfl (sub_self))⟩
      · rw [if_neg h123] at H
        refine EL.keep [1, 2, 25] [(1, .pointer (some ⟨g104, 0, none⟩)), (2, .pointer (some ⟨g107, 0, none⟩)), (25, .bool (decide (t118 = t121)))] (by kernel_rfl) ?_
        refine EL.as' [(1, .pointer (some ⟨g104, 0, none⟩)), (2, .pointer (some ⟨g107, 0, none⟩)), (25, .bool (false))] (by simp only [dec_f h123, Bool.not_true, Bool.not_false]) ?_
        refine EL.quick 12 [0] [(0, .bool (false))] (by kernel_rfl) ?_
        refine EL.done (by kernel_rfl) ?_
        refine EQ.code ?_
        refine EW.ret (by kernel_rfl) ?_
        obtain rfl := Option.some.inj H
        exact EQ.leave (.bool (false)) (by kernel_rfl) ⟨_, rfl, rfl, (hS.re [] [0, 0] rfl (sub_self))⟩
  · rw [if_neg h113] at H
    refine EL.keep [1, 2, 14] [(1, .pointer (some ⟨g104, 0, none⟩)), (2, .pointer (some ⟨g107, 0, none⟩)), (14, .bool (decide (t109 = t111)))] (by kernel_rfl) ?_
    refine EL.as' [(1, .pointer (some ⟨g104, 0, none⟩)), (2, .pointer (some ⟨g107, 0, none⟩)), (14, .bool (false))] (by simp only [dec_f h113, Bool.not_true, Bool.not_false]) ?_
    refine EL.quick 23 [0] [(0, .bool (false))] (by kernel_rfl) ?_
    refine EL.done (by kernel_rfl) ?_
    refine EQ.code ?_
    refine EW.ret (by kernel_rfl) ?_
    obtain rfl := Option.some.inj H
    exact EQ.leave (.bool (false)) (by kernel_rfl) ⟨_, rfl, rfl, (hS.re [] [0, 0] rfl (sub_self))⟩

/-! ### confidant/confidantlaw16.RngTells: function 3 -/
def confidantlaw16_RngTells.l0 (K : Nat) (l7 : List Int) (j3053 : Int → Option Bool) : Nat → Int → Int → Int → Option Bool
  | 0, _, _, _ => none
  | n + 1, x3242, x3243, x3244 => if x3244 < (l7.length : Int) then (lt (fun (x3563 : Int) (x3564 : Int) => (confidantlaw16_RngTells.l0 K l7 j3053 n x3563 x3564 (IntKind.i64.wrap (x3244 + 1)))) fun j3565 => (if 0 ≤ x3244 then (lt (fun (x3572 : Int) => (if (Int.tmod x3244 4) = 3 then (b1 (confidantref15_Step.f K x3243) fun (t3590 : Int) => (b2 (rng_Rng_Next.f K x3242) fun (t3595 : Int) (t3596 : Int) => (if t3596 = t3590 then (j3565 t3595 t3590) else (some false)))) else (lt (fun (x3611 : Int) (x3612 : Int) => (b2 (rng_Rng_Below.f K x3242 x3572) fun (t3623 : Int) (t3624 : Int) => (if t3624 = x3612 then (j3565 t3623 x3611) else (some false)))) fun j3613 => (if x3572 > 0 then (b1 (confidantref15_Step.f K x3243) fun (t3617 : Int) => (if (IntKind.u64.wrap x3572) = 0 then none else (j3613 t3617 (IntKind.i64.wrap (Int.tmod t3617 (IntKind.u64.wrap x3572)))))) else (j3613 x3243 0))))) fun j3573 => (if (Int.tmod x3244 3) > 0 then (j3573 (bA .i64 (l7.getD x3244.toNat 0) 15)) else (j3573 (l7.getD x3244.toNat 0)))) else none)) else (j3053 x3242)
def confidantlaw16_RngTells.f (K : Nat) (a6 : Int) (l7 : List Int) (a10 : Int) : Option Bool := b1 (confidantlaw16_known.f K) fun (t1890 : Bool) => (if t1890 = true then (if (l7.length : Int) > 40 then (some true) else (b1 (rng_New.f K a6) fun (t1898 : Int) => (lt (fun (x1903 : Int) => (lt (fun (x3052 : Int) => (b1 (rng_Step.f K a10) fun (t3627 : Int) => (b1 (confidantref15_Step.f K a10) fun (t3629 : Int) => (some (decide (t3627 = t3629)))))) fun j3053 => (confidantlaw16_RngTells.l0 K l7 j3053 K t1898 x1903 0))) fun j1904 => (if a6 = 0 then (j1904 1) else (j1904 a6))))) else (some false))
set_option maxRecDepth 100000 in
theorem confidantlaw16_RngTells.calls {K : Nat} {a6 : Int} {l7 : List Int} {a10 : Int} {A8 : Option Addr} {C9 : Nat} {x1882 : Bool} {B w : World} {os : List Ass} {rs : List Ro} (H : confidantlaw16_RngTells.f K a6 l7 a10 = some x1882) (hS : St B w (os) (Ro.sl (Kd.int .i64) A8 C9 l7 :: rs)) :
    Calls Try.prog 3 [.int .u64 a6, .slice A8 l7.length C9, .int .u64 a10].toArray w (fun en w' => ∃ v, en = .returned v ∧ v = .bool (x1882) ∧ St B w' (os) (Ro.sl (Kd.int .i64) A8 C9 l7 :: rs)) := by
  unfold confidantlaw16_RngTells.f at H
  refine calls_of_EW (args := [.int .u64 a6, .slice A8 l7.length C9, .int .u64 a10]) (c := C3) 65 Try.func3 (by kernel_rfl) (by kernel_rfl) (by kernel_rfl) ?_
  refine EW.seq (x := C3.l) (y := C3.r) (by kernel_rfl) ?_
  refine EW.region (id := 0) (ops := C3.l.ops) (by kernel_rfl) ?_
  refine EL.quick 1 [0, 1, 2] [(0, .int .u64 a6), (1, .slice A8 l7.length C9), (2, .int .u64 a10)] (by kernel_rfl) ?_
  refine EL.done (by kernel_rfl) ?_
  refine EQ.code ?_
  refine EW.seq (x := C3.r.l) (y := C3.r.r) (by kernel_rfl) ?_
  refine EW.seq (x := C3.r.l.l) (y := C3.r.l.r) (by kernel_rfl) ?_
  refine EW.region (id := 1) (ops := C3.r.l.l.ops) (by kernel_rfl) ?_
  obtain ⟨t1890, hc1891, H⟩ := b1_out H
  refine EL.of (EO.callD 14 [] _ 12 (by kernel_rfl) (by kernel_rfl) (by kernel_rfl) (confidantlaw16_known.calls hc1891 hS) ?_)
  rintro v w ⟨rfl, hS⟩
  refine EL.quick 1 [0, 1, 2, 13] [(0, .int .u64 a6), (1, .slice A8 l7.length C9), (2, .int .u64 a10), (13, .bool (!(t1890)))] (by kernel_rfl) ?_
  refine EL.done (by kernel_rfl) ?_
  refine EQ.code ?_
  refine EW.condQ (b := !(t1890)) (o := (.tmp 13)) (x := C3.r.l.r.l) (y := C3.r.l.r.r) (t1890 = true) (false) (by kernel_rfl) (by kernel_rfl) (by constructor <;> intro h <;> simp [h]) (fun h1892 => ?_) (fun h1892 => ?_)
  · rw [if_pos h1892] at H
    refine EW.skip (by kernel_rfl) ?_
    refine EQ.code ?_
    refine EW.seq (x := C3.r.r.l) (y := C3.r.r.r) (by kernel_rfl) ?_
    refine EW.seq (x := C3.r.r.l.l) (y := C3.r.r.l.r) (by kernel_rfl) ?_
    refine EW.region (id := 3) (ops := C3.r.r.l.l.ops) (by kernel_rfl) ?_
    refine EL.quick 3 [0, 1, 2, 16] [(0, .int .u64 a6), (1, .slice A8 l7.length C9), (2, .int .u64 a10), (16, .bool (decide ((l7.length : Int) > 40)))] (by kernel_rfl) ?_
    refine EL.done (by kernel_rfl) ?_
    refine EQ.code ?_
    refine EW.condP (o := (.tmp 16)) (x := C3.r.r.l.r.l) (y := C3.r.r.l.r.r) ((l7.length : Int) > 40) (by kernel_rfl) (by kernel_rfl) (fun h1894 => ?_) (fun h1894 => ?_)
    · rw [if_pos h1894] at H
      refine EW.seq (x := C3.r.r.l.r.l.l) (y := C3.r.r.l.r.l.r) (by kernel_rfl) ?_
      refine EW.region (id := 4) (ops := C3.r.r.l.r.l.l.ops) (by kernel_rfl) ?_
      refine EL.quick 1 [6] [(6, .bool (true))] (by kernel_rfl) ?_
      refine EL.done (by kernel_rfl) ?_
      refine EQ.code ?_
      refine EW.ret (by kernel_rfl) ?_
      refine EQ.ret ?_
      obtain rfl := Option.some.inj H
      exact EQ.leave (.bool (true)) (by kernel_rfl) ⟨_, rfl, rfl, (hS.re [] [] rfl (sub_self))⟩
    · rw [if_neg h1894] at H
      refine EW.skip (by kernel_rfl) ?_
      refine EQ.code ?_
      refine EW.seq (x := C3.r.r.r.l) (y := C3.r.r.r.r) (by kernel_rfl) ?_
      refine EW.region (id := 5) (ops := C3.r.r.r.l.ops) (by kernel_rfl) ?_
      refine EL.quick 1 [0, 1, 2, 17] [(0, .int .u64 a6), (1, .slice A8 l7.length C9), (2, .int .u64 a10), (17, .int .u64 a6)] (by kernel_rfl) ?_
      obtain ⟨t1898, hc1900, H⟩ := b1_out H
      refine EL.of (EO.callD 15 [.int .u64 a6] _ 18 (by kernel_rfl) (by kernel_rfl) (by kernel_rfl) (rng_New.calls hc1900 hS) ?_)
      rintro v w ⟨g1899, rfl, hS⟩
      refine EL.quick 1 [0, 1, 2, 7] [(0, .int .u64 a6), (1, .slice A8 l7.length C9), (2, .int .u64 a10), (7, .pointer (some ⟨g1899, 0, none⟩))] (by kernel_rfl) ?_
      refine EL.done (by kernel_rfl) ?_
      refine EQ.code ?_
      refine EW.seq (x := C3.r.r.r.r.l) (y := C3.r.r.r.r.r) (by kernel_rfl) ?_
      refine EW.region (id := 6) (ops := C3.r.r.r.r.l.ops) (by kernel_rfl) ?_
      refine EL.quick 2 [1, 2, 7, 8] [(1, .slice A8 l7.length C9), (2, .int .u64 a10), (7, .pointer (some ⟨g1899, 0, none⟩)), (8, .int .u64 a6)] (by kernel_rfl) ?_
      refine EL.done (by kernel_rfl) ?_
      refine EQ.code ?_
      obtain ⟨j1904, hj1904, H⟩ := lt_out H
      refine EW.cut (x := C3.r.r.r.r.r.l) (y := C3.r.r.r.r.r.r) (fun a w => ∃ x1903 : Int, Sat 65 [(1, .slice A8 l7.length C9), (2, .int .u64 a10), (7, .pointer (some ⟨g1899, 0, none⟩)), (8, .int .u64 x1903)] a ∧ St B w (Ass.box 59 g1899 [.int .u64 t1898] :: os) (Ro.sl (Kd.int .i64) A8 C9 l7 :: rs) ∧ j1904 x1903 = some x1882) (by kernel_rfl) ?_ (fun a w hI => ?_)
      · refine EW.seq (x := C3.r.r.r.r.r.l.l) (y := C3.r.r.r.r.r.l.r) (by kernel_rfl) ?_
        refine EW.region (id := 7) (ops := C3.r.r.r.r.r.l.l.ops) (by kernel_rfl) ?_
        refine EL.quick 2 [1, 2, 7, 8, 21] [(1, .slice A8 l7.length C9), (2, .int .u64 a10), (7, .pointer (some ⟨g1899, 0, none⟩)), (8, .int .u64 a6), (21, .bool (decide (a6 = 0)))] (by kernel_rfl) ?_
        refine EL.done (by kernel_rfl) ?_
        refine EQ.code ?_
        refine EW.condP (o := (.tmp 21)) (x := C3.r.r.r.r.r.l.r.l) (y := C3.r.r.r.r.r.l.r.r) (a6 = 0) (by kernel_rfl) (by kernel_rfl) (fun h1905 => ?_) (fun h1905 => ?_)
        · rw [if_pos h1905] at H
          refine EW.region (id := 8) (ops := C3.r.r.r.r.r.l.r.l.ops) (by kernel_rfl) ?_
          refine EL.quick 1 [1, 2, 7, 8] [(1, .slice A8 l7.length C9), (2, .int .u64 a10), (7, .pointer (some ⟨g1899, 0, none⟩)), (8, .int .u64 1)] (by kernel_rfl) ?_
          refine EL.done (by kernel_rfl) ?_
          refine EQ.to ?_
          refine EQ.keep [1, 2, 7, 8] [(1, .slice A8 l7.length C9), (2, .int .u64 a10), (7, .pointer (some ⟨g1899, 0, none⟩)), (8, .int .u64 1)] (by kernel_rfl) ?_
          exact fun a ha => ⟨1, ha, (hS.re [0] [] rfl (sub_cons 0 rfl (sub_tail (sub_self)))), H⟩
        · rw [if_neg h1905] at H
          refine EW.skip (by kernel_rfl) ?_
          refine EQ.to ?_
          refine EQ.keep [1, 2, 7, 8] [(1, .slice A8 l7.length C9), (2, .int .u64 a10), (7, .pointer (some ⟨g1899, 0, none⟩)), (8, .int .u64 a6)] (by kernel_rfl) ?_
          exact fun a ha => ⟨a6, ha, (hS.re [0] [] rfl (sub_cons 0 rfl (sub_tail (sub_self)))), H⟩
      · obtain ⟨x1903, ha, hS, H⟩ := hI
        rw [hj1904] at H
        (try dsimp only at H)
        refine EW.at ?_ a ha
        clear ha a
        obtain ⟨j3053, hj3053, H⟩ := lt_out H
        refine EW.cut (x := C3.r.r.r.r.r.r.l) (y := C3.r.r.r.r.r.r.r) (fun a w => ∃ x3052 : Int, Sat 65 [(2, .int .u64 a10)] a ∧ St B w (Ass.box 59 g1899 [.int .u64 x3052] :: os) (Ro.sl (Kd.int .i64) A8 C9 l7 :: rs) ∧ j3053 x3052 = some x1882) (by kernel_rfl) ?_ (fun a w hI => ?_)
        · refine EW.seq (x := C3.r.r.r.r.r.r.l.l) (y := C3.r.r.r.r.r.r.l.r) (by kernel_rfl) ?_
          refine EW.region (id := 9) (ops := C3.r.r.r.r.r.r.l.l.ops) (by kernel_rfl) ?_
          refine EL.quick 1 [1, 2, 7, 8, 9] [(1, .slice A8 l7.length C9), (2, .int .u64 a10), (7, .pointer (some ⟨g1899, 0, none⟩)), (8, .int .u64 x1903), (9, .int .i64 0)] (by kernel_rfl) ?_
          refine EL.done (by kernel_rfl) ?_
          refine EQ.code ?_
          refine EW.block (x := C3.r.r.r.r.r.r.l.r.l) (id := 0) (by kernel_rfl) ?_
          refine EW.loop (x := C3.r.r.r.r.r.r.l.r.l.l) (fun n a w => ∃ x3242 : Int, ∃ x3243 : Int, ∃ x3244 : Int, Sat 65 [(1, .slice A8 l7.length C9), (2, .int .u64 a10), (7, .pointer (some ⟨g1899, 0, none⟩)), (8, .int .u64 x3243), (9, .int .i64 x3244)] a ∧ St B w (Ass.box 59 g1899 [.int .u64 x3242] :: os) (Ro.sl (Kd.int .i64) A8 C9 l7 :: rs) ∧ confidantlaw16_RngTells.l0 K l7 j3053 n x3242 x3243 x3244 = some x1882) K (by kernel_rfl) ?_ (fun n a w hI => ?_)
          · refine EQ.keep [1, 2, 7, 8, 9] [(1, .slice A8 l7.length C9), (2, .int .u64 a10), (7, .pointer (some ⟨g1899, 0, none⟩)), (8, .int .u64 x1903), (9, .int .i64 0)] (by kernel_rfl) ?_
            exact fun a ha => ⟨t1898, x1903, 0, ha, (hS.re [0] [] rfl (sub_cons 0 rfl (sub_tail (sub_self)))), H⟩
          · obtain ⟨x3242, x3243, x3244, ha, hS, H⟩ := hI
            obtain _ | n := n
            · simp [confidantlaw16_RngTells.l0] at H
            rw [confidantlaw16_RngTells.l0.eq_2] at H
            refine EW.at ?_ a ha
            clear ha a
            refine EW.seq (x := C3.r.r.r.r.r.r.l.r.l.l.l) (y := C3.r.r.r.r.r.r.l.r.l.l.r) (by kernel_rfl) ?_
            refine EW.seq (x := C3.r.r.r.r.r.r.l.r.l.l.l.l) (y := C3.r.r.r.r.r.r.l.r.l.l.l.r) (by kernel_rfl) ?_
            refine EW.region (id := 10) (ops := C3.r.r.r.r.r.r.l.r.l.l.l.l.ops) (by kernel_rfl) ?_
            refine EL.quick 4 [1, 2, 7, 8, 9, 25] [(1, .slice A8 l7.length C9), (2, .int .u64 a10), (7, .pointer (some ⟨g1899, 0, none⟩)), (8, .int .u64 x3243), (9, .int .i64 x3244), (25, .bool (decide (x3244 < (l7.length : Int))))] (by kernel_rfl) ?_
            refine EL.done (by kernel_rfl) ?_
            refine EQ.code ?_
            refine EW.condP (o := (.tmp 25)) (x := C3.r.r.r.r.r.r.l.r.l.l.l.r.l) (y := C3.r.r.r.r.r.r.l.r.l.l.l.r.r) (x3244 < (l7.length : Int)) (by kernel_rfl) (by kernel_rfl) (fun h3440 => ?_) (fun h3440 => ?_)
            · rw [if_pos h3440] at H
              refine EW.skip (by kernel_rfl) ?_
              refine EQ.code ?_
              obtain ⟨j3565, hj3565, H⟩ := lt_out H
              refine EW.cut (x := C3.r.r.r.r.r.r.l.r.l.l.r.l) (y := C3.r.r.r.r.r.r.l.r.l.l.r.r) (fun a w => ∃ x3563 : Int, ∃ x3564 : Int, Sat 65 [(1, .slice A8 l7.length C9), (2, .int .u64 a10), (7, .pointer (some ⟨g1899, 0, none⟩)), (8, .int .u64 x3564), (9, .int .i64 x3244)] a ∧ St B w (Ass.box 59 g1899 [.int .u64 x3563] :: os) (Ro.sl (Kd.int .i64) A8 C9 l7 :: rs) ∧ j3565 x3563 x3564 = some x1882) (by kernel_rfl) ?_ (fun a w hI => ?_)
              · refine EW.block (x := C3.r.r.r.r.r.r.l.r.l.l.r.l.l) (id := 1) (by kernel_rfl) ?_
                refine EW.seq (x := C3.r.r.r.r.r.r.l.r.l.l.r.l.l.l) (y := C3.r.r.r.r.r.r.l.r.l.l.r.l.l.r) (by kernel_rfl) ?_
                refine EW.region (id := 12) (ops := C3.r.r.r.r.r.r.l.r.l.l.r.l.l.l.ops) (by kernel_rfl) ?_
                refine EL.quick 2 [1, 2, 7, 8, 9, 28, 29] [(1, .slice A8 l7.length C9), (2, .int .u64 a10), (7, .pointer (some ⟨g1899, 0, none⟩)), (8, .int .u64 x3243), (9, .int .i64 x3244), (28, .slice A8 l7.length C9), (29, .int .i64 x3244)] (by kernel_rfl) ?_
                obtain ⟨h3568, H⟩ := ite_in H
                obtain ⟨ad3569, rfl⟩ := St.rd_some hS (Rd.ro 0 rfl) h3568 h3440
                refine EL.of (EO.Y (YO.idx 23 1 ad3569 l7.length C9 .i64 x3244 30 (by kernel_rfl) (by kernel_rfl) (by kernel_rfl) (by kernel_rfl) h3568 h3440) ?_)
                refine EL.of (EO.Y (YO.loadEl hS (Kd.int .i64) ad3569 C9 l7 (Rd.ro 0 rfl) 0 (encI .i64) encI_of x3244 h3568 h3440 3 1 0 1 rfl (.int .i64 (l7.getD x3244.toNat 0)) 31 (by kernel_rfl) (by kernel_rfl) (by kernel_rfl) (by kernel_rfl)) ?_)
                refine EL.quick 1 [1, 2, 7, 8, 9, 10] [(1, .slice (some ad3569) l7.length C9), (2, .int .u64 a10), (7, .pointer (some ⟨g1899, 0, none⟩)), (8, .int .u64 x3243), (9, .int .i64 x3244), (10, .int .i64 (l7.getD x3244.toNat 0))] (by kernel_rfl) ?_
                refine EL.done (by kernel_rfl) ?_
                refine EQ.code ?_
                obtain ⟨j3573, hj3573, H⟩ := lt_out H
                refine EW.cut (x := C3.r.r.r.r.r.r.l.r.l.l.r.l.l.r.l) (y := C3.r.r.r.r.r.r.l.r.l.l.r.l.l.r.r) (fun a w => ∃ x3572 : Int, Sat 65 [(1, .slice (some ad3569) l7.length C9), (2, .int .u64 a10), (7, .pointer (some ⟨g1899, 0, none⟩)), (8, .int .u64 x3243), (9, .int .i64 x3244), (10, .int .i64 x3572)] a ∧ St B w (Ass.box 59 g1899 [.int .u64 x3242] :: os) (Ro.sl (Kd.int .i64) (some ad3569) C9 l7 :: rs) ∧ j3573 x3572 = some x1882) (by kernel_rfl) ?_ (fun a w hI => ?_)
                · refine EW.seq (x := C3.r.r.r.r.r.r.l.r.l.l.r.l.l.r.l.l) (y := C3.r.r.r.r.r.r.l.r.l.l.r.l.l.r.l.r) (by kernel_rfl) ?_
                  refine EW.region (id := 13) (ops := C3.r.r.r.r.r.r.l.r.l.l.r.l.l.r.l.l.ops) (by kernel_rfl) ?_
                  refine EL.quick 3 [1, 2, 7, 8, 9, 10, 34] [(1, .slice (some ad3569) l7.length C9), (2, .int .u64 a10), (7, .pointer (some ⟨g1899, 0, none⟩)), (8, .int .u64 x3243), (9, .int .i64 x3244), (10, .int .i64 (l7.getD x3244.toNat 0)), (34, .bool (decide ((Int.tmod x3244 3) > 0)))] (by kernel_rfl) ?_
                  refine EL.done (by kernel_rfl) ?_
                  refine EQ.code ?_
                  refine EW.condP (o := (.tmp 34)) (x := C3.r.r.r.r.r.r.l.r.l.l.r.l.l.r.l.r.l) (y := C3.r.r.r.r.r.r.l.r.l.l.r.l.l.r.l.r.r) ((Int.tmod x3244 3) > 0) (by kernel_rfl) (by kernel_rfl) (fun h3574 => ?_) (fun h3574 => ?_)
                  · rw [if_pos h3574] at H
                    refine EW.region (id := 14) (ops := C3.r.r.r.r.r.r.l.r.l.l.r.l.l.r.l.r.l.ops) (by kernel_rfl) ?_
                    refine EL.quick 3 [1, 2, 7, 8, 9, 10] [(1, .slice (some ad3569) l7.length C9), (2, .int .u64 a10), (7, .pointer (some ⟨g1899, 0, none⟩)), (8, .int .u64 x3243), (9, .int .i64 x3244), (10, .int .i64 (bA .i64 (l7.getD x3244.toNat 0) 15))] (by kernel_rfl) ?_
                    refine EL.done (by kernel_rfl) ?_
                    refine EQ.to ?_
                    refine EQ.keep [1, 2, 7, 8, 9, 10] [(1, .slice (some ad3569) l7.length C9), (2, .int .u64 a10), (7, .pointer (some ⟨g1899, 0, none⟩)), (8, .int .u64 x3243), (9, .int .i64 x3244), (10, .int .i64 (bA .i64 (l7.getD x3244.toNat 0) 15))] (by kernel_rfl) ?_
                    exact fun a ha => ⟨bA .i64 (l7.getD x3244.toNat 0) 15, ha, (hS.re [0] [] rfl (sub_cons 0 rfl (sub_tail (sub_self)))), H⟩
                  · rw [if_neg h3574] at H
                    refine EW.skip (by kernel_rfl) ?_
                    refine EQ.to ?_
                    refine EQ.keep [1, 2, 7, 8, 9, 10] [(1, .slice (some ad3569) l7.length C9), (2, .int .u64 a10), (7, .pointer (some ⟨g1899, 0, none⟩)), (8, .int .u64 x3243), (9, .int .i64 x3244), (10, .int .i64 (l7.getD x3244.toNat 0))] (by kernel_rfl) ?_
                    exact fun a ha => ⟨(l7.getD x3244.toNat 0), ha, (hS.re [0] [] rfl (sub_cons 0 rfl (sub_tail (sub_self)))), H⟩
                · obtain ⟨x3572, ha, hS, H⟩ := hI
                  rw [hj3573] at H
                  (try dsimp only at H)
                  refine EW.at ?_ a ha
                  clear ha a
                  refine EW.seq (x := C3.r.r.r.r.r.r.l.r.l.l.r.l.l.r.r.l) (y := C3.r.r.r.r.r.r.l.r.l.l.r.l.l.r.r.r) (by kernel_rfl) ?_
                  refine EW.seq (x := C3.r.r.r.r.r.r.l.r.l.l.r.l.l.r.r.l.l) (y := C3.r.r.r.r.r.r.l.r.l.l.r.l.l.r.r.l.r) (by kernel_rfl) ?_
                  refine EW.region (id := 15) (ops := C3.r.r.r.r.r.r.l.r.l.l.r.l.l.r.r.l.l.ops) (by kernel_rfl) ?_
                  refine EL.quick 3 [1, 2, 7, 8, 9, 10, 39] [(1, .slice (some ad3569) l7.length C9), (2, .int .u64 a10), (7, .pointer (some ⟨g1899, 0, none⟩)), (8, .int .u64 x3243), (9, .int .i64 x3244), (10, .int .i64 x3572), (39, .bool (decide ((Int.tmod x3244 4) = 3)))] (by kernel_rfl) ?_
                  refine EL.done (by kernel_rfl) ?_
                  refine EQ.code ?_
                  refine EW.condP (o := (.tmp 39)) (x := C3.r.r.r.r.r.r.l.r.l.l.r.l.l.r.r.l.r.l) (y := C3.r.r.r.r.r.r.l.r.l.l.r.l.l.r.r.l.r.r) ((Int.tmod x3244 4) = 3) (by kernel_rfl) (by kernel_rfl) (fun h3587 => ?_) (fun h3587 => ?_)
                  · rw [if_pos h3587] at H
                    refine EW.seq (x := C3.r.r.r.r.r.r.l.r.l.l.r.l.l.r.r.l.r.l.l) (y := C3.r.r.r.r.r.r.l.r.l.l.r.l.l.r.r.l.r.l.r) (by kernel_rfl) ?_
                    refine EW.region (id := 16) (ops := C3.r.r.r.r.r.r.l.r.l.l.r.l.l.r.r.l.r.l.l.ops) (by kernel_rfl) ?_
                    refine EL.quick 1 [1, 2, 7, 9, 40] [(1, .slice (some ad3569) l7.length C9), (2, .int .u64 a10), (7, .pointer (some ⟨g1899, 0, none⟩)), (9, .int .i64 x3244), (40, .int .u64 x3243)] (by kernel_rfl) ?_
                    obtain ⟨t3590, hc3591, H⟩ := b1_out H
                    refine EL.of (EO.callD 16 [.int .u64 x3243] _ 41 (by kernel_rfl) (by kernel_rfl) (by kernel_rfl) (confidantref15_Step.calls hc3591 hS) ?_)
                    rintro v w ⟨rfl, hS⟩
                    refine EL.quick 1 [1, 2, 7, 8, 9] [(1, .slice (some ad3569) l7.length C9), (2, .int .u64 a10), (7, .pointer (some ⟨g1899, 0, none⟩)), (8, .int .u64 t3590), (9, .int .i64 x3244)] (by kernel_rfl) ?_
                    refine EL.done (by kernel_rfl) ?_
                    refine EQ.code ?_
                    refine EW.seq (x := C3.r.r.r.r.r.r.l.r.l.l.r.l.l.r.r.l.r.l.r.l) (y := C3.r.r.r.r.r.r.l.r.l.l.r.l.l.r.r.l.r.l.r.r) (by kernel_rfl) ?_
                    refine EW.seq (x := C3.r.r.r.r.r.r.l.r.l.l.r.l.l.r.r.l.r.l.r.l.l) (y := C3.r.r.r.r.r.r.l.r.l.l.r.l.l.r.r.l.r.l.r.l.r) (by kernel_rfl) ?_
                    refine EW.region (id := 17) (ops := C3.r.r.r.r.r.r.l.r.l.l.r.l.l.r.r.l.r.l.r.l.l.ops) (by kernel_rfl) ?_
                    refine EL.quick 1 [1, 2, 7, 8, 9, 42] [(1, .slice (some ad3569) l7.length C9), (2, .int .u64 a10), (7, .pointer (some ⟨g1899, 0, none⟩)), (8, .int .u64 t3590), (9, .int .i64 x3244), (42, .pointer (some ⟨g1899, 0, none⟩))] (by kernel_rfl) ?_
                    obtain ⟨t3595, t3596, hc3597, H⟩ := b2_out H
                    refine EL.of (EO.callD 17 [.pointer (some ⟨g1899, 0, none⟩)] _ 43 (by kernel_rfl) (by kernel_rfl) (by kernel_rfl) (rng_Rng_Next.calls hc3597 hS) ?_)
                    rintro v w ⟨rfl, hS⟩
                    refine EL.quick 2 [1, 2, 7, 8, 9, 45] [(1, .slice (some ad3569) l7.length C9), (2, .int .u64 a10), (7, .pointer (some ⟨g1899, 0, none⟩)), (8, .int .u64 t3590), (9, .int .i64 x3244), (45, .bool (!(decide (t3596 = t3590))))] (by kernel_rfl) ?_
                    refine EL.done (by kernel_rfl) ?_
                    refine EQ.code ?_
                    refine EW.condQ (b := !(decide (t3596 = t3590))) (o := (.tmp 45)) (x := C3.r.r.r.r.r.r.l.r.l.l.r.l.l.r.r.l.r.l.r.l.r.l) (y := C3.r.r.r.r.r.r.l.r.l.l.r.l.l.r.r.l.r.l.r.l.r.r) (t3596 = t3590) (false) (by kernel_rfl) (by kernel_rfl) (by constructor <;> intro h <;> simp [h]) (fun h3598 => ?_) (fun h3598 => ?_)
                    · rw [if_pos h3598] at H
                      refine EW.skip (by kernel_rfl) ?_
                      refine EQ.code ?_
                      refine EW.exit (id := 1) (by kernel_rfl) ?_
                      refine EQ.exitCode ?_
                      refine EQ.exitHere ?_
                      refine EQ.to ?_
                      refine EQ.keep [1, 2, 7, 8, 9] [(1, .slice (some ad3569) l7.length C9), (2, .int .u64 a10), (7, .pointer (some ⟨g1899, 0, none⟩)), (8, .int .u64 t3590), (9, .int .i64 x3244)] (by kernel_rfl) ?_
                      exact fun a ha => ⟨t3595, t3590, ha, (hS.re [0] [] rfl (sub_cons 0 rfl (sub_tail (sub_self)))), H⟩
                    · rw [if_neg h3598] at H
                      refine EW.seq (x := C3.r.r.r.r.r.r.l.r.l.l.r.l.l.r.r.l.r.l.r.l.r.l.l) (y := C3.r.r.r.r.r.r.l.r.l.l.r.l.l.r.r.l.r.l.r.l.r.l.r) (by kernel_rfl) ?_
                      refine EW.region (id := 18) (ops := C3.r.r.r.r.r.r.l.r.l.l.r.l.l.r.r.l.r.l.r.l.r.l.l.ops) (by kernel_rfl) ?_
                      refine EL.quick 1 [6] [(6, .bool (false))] (by kernel_rfl) ?_
                      refine EL.done (by kernel_rfl) ?_
                      refine EQ.code ?_
                      refine EW.ret (by kernel_rfl) ?_
                      refine EQ.ret ?_
                      refine EQ.ret ?_
                      refine EQ.ret ?_
                      refine EQ.ret ?_
                      refine EQ.ret ?_
                      refine EQ.ret ?_
                      refine EQ.ret ?_
                      obtain rfl := Option.some.inj H
                      exact EQ.leave (.bool (false)) (by kernel_rfl) ⟨_, rfl, rfl, (hS.re [] [0] rfl (sub_self))⟩
                  · rw [if_neg h3587] at H
                    refine EW.skip (by kernel_rfl) ?_
                    refine EQ.code ?_
                    refine EW.seq (x := C3.r.r.r.r.r.r.l.r.l.l.r.l.l.r.r.r.l) (y := C3.r.r.r.r.r.r.l.r.l.l.r.l.l.r.r.r.r) (by kernel_rfl) ?_
                    refine EW.region (id := 19) (ops := C3.r.r.r.r.r.r.l.r.l.l.r.l.l.r.r.r.l.ops) (by kernel_rfl) ?_
                    refine EL.quick 1 [1, 2, 7, 8, 9, 10, 11] [(1, .slice (some ad3569) l7.length C9), (2, .int .u64 a10), (7, .pointer (some ⟨g1899, 0, none⟩)), (8, .int .u64 x3243), (9, .int .i64 x3244), (10, .int .i64 x3572), (11, .int .i64 0)] (by kernel_rfl) ?_
                    refine EL.done (by kernel_rfl) ?_
                    refine EQ.code ?_
                    obtain ⟨j3613, hj3613, H⟩ := lt_out H
                    refine EW.cut (x := C3.r.r.r.r.r.r.l.r.l.l.r.l.l.r.r.r.r.l) (y := C3.r.r.r.r.r.r.l.r.l.l.r.l.l.r.r.r.r.r) (fun a w => ∃ x3611 : Int, ∃ x3612 : Int, Sat 65 [(1, .slice (some ad3569) l7.length C9), (2, .int .u64 a10), (7, .pointer (some ⟨g1899, 0, none⟩)), (8, .int .u64 x3611), (9, .int .i64 x3244), (10, .int .i64 x3572), (11, .int .i64 x3612)] a ∧ St B w (Ass.box 59 g1899 [.int .u64 x3242] :: os) (Ro.sl (Kd.int .i64) (some ad3569) C9 l7 :: rs) ∧ j3613 x3611 x3612 = some x1882) (by kernel_rfl) ?_ (fun a w hI => ?_)
                    · refine EW.seq (x := C3.r.r.r.r.r.r.l.r.l.l.r.l.l.r.r.r.r.l.l) (y := C3.r.r.r.r.r.r.l.r.l.l.r.l.l.r.r.r.r.l.r) (by kernel_rfl) ?_
                      refine EW.region (id := 20) (ops := C3.r.r.r.r.r.r.l.r.l.l.r.l.l.r.r.r.r.l.l.ops) (by kernel_rfl) ?_
                      refine EL.quick 2 [1, 2, 7, 8, 9, 10, 11, 47] [(1, .slice (some ad3569) l7.length C9), (2, .int .u64 a10), (7, .pointer (some ⟨g1899, 0, none⟩)), (8, .int .u64 x3243), (9, .int .i64 x3244), (10, .int .i64 x3572), (11, .int .i64 0), (47, .bool (decide (x3572 > 0)))] (by kernel_rfl) ?_
                      refine EL.done (by kernel_rfl) ?_
                      refine EQ.code ?_
                      refine EW.condP (o := (.tmp 47)) (x := C3.r.r.r.r.r.r.l.r.l.l.r.l.l.r.r.r.r.l.r.l) (y := C3.r.r.r.r.r.r.l.r.l.l.r.l.l.r.r.r.r.l.r.r) (x3572 > 0) (by kernel_rfl) (by kernel_rfl) (fun h3614 => ?_) (fun h3614 => ?_)
                      · rw [if_pos h3614] at H
                        refine EW.seq (x := C3.r.r.r.r.r.r.l.r.l.l.r.l.l.r.r.r.r.l.r.l.l) (y := C3.r.r.r.r.r.r.l.r.l.l.r.l.l.r.r.r.r.l.r.l.r) (by kernel_rfl) ?_
                        refine EW.region (id := 21) (ops := C3.r.r.r.r.r.r.l.r.l.l.r.l.l.r.r.r.r.l.r.l.l.ops) (by kernel_rfl) ?_
                        refine EL.quick 1 [1, 2, 7, 9, 10, 48] [(1, .slice (some ad3569) l7.length C9), (2, .int .u64 a10), (7, .pointer (some ⟨g1899, 0, none⟩)), (9, .int .i64 x3244), (10, .int .i64 x3572), (48, .int .u64 x3243)] (by kernel_rfl) ?_
                        obtain ⟨t3617, hc3618, H⟩ := b1_out H
                        refine EL.of (EO.callD 16 [.int .u64 x3243] _ 49 (by kernel_rfl) (by kernel_rfl) (by kernel_rfl) (confidantref15_Step.calls hc3618 hS) ?_)
                        rintro v w ⟨rfl, hS⟩
                        refine EL.quick 1 [1, 2, 7, 8, 9, 10] [(1, .slice (some ad3569) l7.length C9), (2, .int .u64 a10), (7, .pointer (some ⟨g1899, 0, none⟩)), (8, .int .u64 t3617), (9, .int .i64 x3244), (10, .int .i64 x3572)] (by kernel_rfl) ?_
                        refine EL.done (by kernel_rfl) ?_
                        refine EQ.code ?_
                        refine EW.region (id := 22) (ops := C3.r.r.r.r.r.r.l.r.l.l.r.l.l.r.r.r.r.l.r.l.r.ops) (by kernel_rfl) ?_
                        refine EL.quick 3 [1, 2, 7, 8, 9, 10, 50, 52] [(1, .slice (some ad3569) l7.length C9), (2, .int .u64 a10), (7, .pointer (some ⟨g1899, 0, none⟩)), (8, .int .u64 t3617), (9, .int .i64 x3244), (10, .int .i64 x3572), (50, .int .u64 t3617), (52, .int .u64 (IntKind.u64.wrap x3572))] (by kernel_rfl) ?_
                        obtain ⟨h3619, H⟩ := ite_out H
                        refine EL.of (EO.Y (YO.div .rem .u64 t3617 (IntKind.u64.wrap x3572) (Int.tmod t3617 (IntKind.u64.wrap x3572)) 53 (by kernel_rfl) (by kernel_rfl) (by kernel_rfl) h3619 (by first | exact .inl ⟨rfl, rfl⟩ | exact .inr ⟨rfl, rfl⟩)) ?_)
                        refine EL.quick 2 [1, 2, 7, 8, 9, 10, 11] [(1, .slice (some ad3569) l7.length C9), (2, .int .u64 a10), (7, .pointer (some ⟨g1899, 0, none⟩)), (8, .int .u64 t3617), (9, .int .i64 x3244), (10, .int .i64 x3572), (11, .int .i64 (IntKind.i64.wrap (Int.tmod t3617 (IntKind.u64.wrap x3572))))] (by kernel_rfl) ?_
                        refine EL.done (by kernel_rfl) ?_
                        refine EQ.to ?_
                        refine EQ.keep [1, 2, 7, 8, 9, 10, 11] [(1, .slice (some ad3569) l7.length C9), (2, .int .u64 a10), (7, .pointer (some ⟨g1899, 0, none⟩)), (8, .int .u64 t3617), (9, .int .i64 x3244), (10, .int .i64 x3572), (11, .int .i64 (IntKind.i64.wrap (Int.tmod t3617 (IntKind.u64.wrap x3572))))] (by kernel_rfl) ?_
                        exact fun a ha => ⟨t3617, IntKind.i64.wrap (Int.tmod t3617 (IntKind.u64.wrap x3572)), ha, (hS.re [0] [] rfl (sub_cons 0 rfl (sub_tail (sub_self)))), H⟩
                      · rw [if_neg h3614] at H
                        refine EW.skip (by kernel_rfl) ?_
                        refine EQ.to ?_
                        refine EQ.keep [1, 2, 7, 8, 9, 10, 11] [(1, .slice (some ad3569) l7.length C9), (2, .int .u64 a10), (7, .pointer (some ⟨g1899, 0, none⟩)), (8, .int .u64 x3243), (9, .int .i64 x3244), (10, .int .i64 x3572), (11, .int .i64 0)] (by kernel_rfl) ?_
                        exact fun a ha => ⟨x3243, 0, ha, (hS.re [0] [] rfl (sub_cons 0 rfl (sub_tail (sub_self)))), H⟩
                    · obtain ⟨x3611, x3612, ha, hS, H⟩ := hI
                      rw [hj3613] at H
                      (try dsimp only at H)
                      refine EW.at ?_ a ha
                      clear ha a
                      refine EW.seq (x := C3.r.r.r.r.r.r.l.r.l.l.r.l.l.r.r.r.r.r.l) (y := C3.r.r.r.r.r.r.l.r.l.l.r.l.l.r.r.r.r.r.r) (by kernel_rfl) ?_
                      refine EW.region (id := 23) (ops := C3.r.r.r.r.r.r.l.r.l.l.r.l.l.r.r.r.r.r.l.ops) (by kernel_rfl) ?_
                      refine EL.quick 2 [1, 2, 7, 8, 9, 11, 55, 56] [(1, .slice (some ad3569) l7.length C9), (2, .int .u64 a10), (7, .pointer (some ⟨g1899, 0, none⟩)), (8, .int .u64 x3611), (9, .int .i64 x3244), (11, .int .i64 x3612), (55, .pointer (some ⟨g1899, 0, none⟩)), (56, .int .i64 x3572)] (by kernel_rfl) ?_
                      obtain ⟨t3623, t3624, hc3625, H⟩ := b2_out H
                      refine EL.of (EO.callD 18 [.pointer (some ⟨g1899, 0, none⟩), .int .i64 x3572] _ 57 (by kernel_rfl) (by kernel_rfl) (by kernel_rfl) (rng_Rng_Below.calls hc3625 hS) ?_)
                      rintro v w ⟨rfl, hS⟩
                      refine EL.quick 2 [1, 2, 7, 8, 9, 59] [(1, .slice (some ad3569) l7.length C9), (2, .int .u64 a10), (7, .pointer (some ⟨g1899, 0, none⟩)), (8, .int .u64 x3611), (9, .int .i64 x3244), (59, .bool (!(decide (t3624 = x3612))))] (by kernel_rfl) ?_
                      refine EL.done (by kernel_rfl) ?_
                      refine EQ.code ?_
                      refine EW.condQ (b := !(decide (t3624 = x3612))) (o := (.tmp 59)) (x := C3.r.r.r.r.r.r.l.r.l.l.r.l.l.r.r.r.r.r.r.l) (y := C3.r.r.r.r.r.r.l.r.l.l.r.l.l.r.r.r.r.r.r.r) (t3624 = x3612) (false) (by kernel_rfl) (by kernel_rfl) (by constructor <;> intro h <;> simp [h]) (fun h3626 => ?_) (fun h3626 => ?_)
                      · rw [if_pos h3626] at H
                        refine EW.skip (by kernel_rfl) ?_
                        refine EQ.pop ?_
                        refine EQ.to ?_
                        refine EQ.keep [1, 2, 7, 8, 9] [(1, .slice (some ad3569) l7.length C9), (2, .int .u64 a10), (7, .pointer (some ⟨g1899, 0, none⟩)), (8, .int .u64 x3611), (9, .int .i64 x3244)] (by kernel_rfl) ?_
                        exact fun a ha => ⟨t3623, x3611, ha, (hS.re [0] [] rfl (sub_cons 0 rfl (sub_tail (sub_self)))), H⟩
                      · rw [if_neg h3626] at H
                        refine EW.seq (x := C3.r.r.r.r.r.r.l.r.l.l.r.l.l.r.r.r.r.r.r.l.l) (y := C3.r.r.r.r.r.r.l.r.l.l.r.l.l.r.r.r.r.r.r.l.r) (by kernel_rfl) ?_
                        refine EW.region (id := 24) (ops := C3.r.r.r.r.r.r.l.r.l.l.r.l.l.r.r.r.r.r.r.l.l.ops) (by kernel_rfl) ?_
                        refine EL.quick 1 [6] [(6, .bool (false))] (by kernel_rfl) ?_
                        refine EL.done (by kernel_rfl) ?_
                        refine EQ.code ?_
                        refine EW.ret (by kernel_rfl) ?_
                        refine EQ.ret ?_
                        refine EQ.ret ?_
                        refine EQ.ret ?_
                        refine EQ.ret ?_
                        refine EQ.ret ?_
                        obtain rfl := Option.some.inj H
                        exact EQ.leave (.bool (false)) (by kernel_rfl) ⟨_, rfl, rfl, (hS.re [] [0] rfl (sub_self))⟩
              · obtain ⟨x3563, x3564, ha, hS, H⟩ := hI
                rw [hj3565] at H
                (try dsimp only at H)
                refine EW.at ?_ a ha
                clear ha a
                refine EW.region (id := 11) (ops := C3.r.r.r.r.r.r.l.r.l.l.r.r.ops) (by kernel_rfl) ?_
                refine EL.quick 3 [1, 2, 7, 8, 9] [(1, .slice A8 l7.length C9), (2, .int .u64 a10), (7, .pointer (some ⟨g1899, 0, none⟩)), (8, .int .u64 x3564), (9, .int .i64 (IntKind.i64.wrap (x3244 + 1)))] (by kernel_rfl) ?_
                refine EL.done (by kernel_rfl) ?_
                refine EQ.to ?_
                refine EQ.keep [1, 2, 7, 8, 9] [(1, .slice A8 l7.length C9), (2, .int .u64 a10), (7, .pointer (some ⟨g1899, 0, none⟩)), (8, .int .u64 x3564), (9, .int .i64 (IntKind.i64.wrap (x3244 + 1)))] (by kernel_rfl) ?_
                exact fun a ha => ⟨n, Nat.lt_succ_self n, x3563, x3564, IntKind.i64.wrap (x3244 + 1), ha, (hS.re [0] [] rfl (sub_cons 0 rfl (sub_tail (sub_self)))), H⟩
            · rw [if_neg h3440] at H
              refine EW.exit (id := 0) (by kernel_rfl) ?_
              refine EQ.exitCode ?_
              refine EQ.exitTo ?_
              refine EQ.exitHere ?_
              refine EQ.to ?_
              refine EQ.keep [2] [(2, .int .u64 a10)] (by kernel_rfl) ?_
              exact fun a ha => ⟨x3242, ha, (hS.re [0] [] rfl (sub_cons 0 rfl (sub_tail (sub_self)))), H⟩
        · obtain ⟨x3052, ha, hS, H⟩ := hI
          rw [hj3053] at H
          (try dsimp only at H)
          refine EW.at ?_ a ha
          clear ha a
          refine EW.seq (x := C3.r.r.r.r.r.r.r.l) (y := C3.r.r.r.r.r.r.r.r) (by kernel_rfl) ?_
          refine EW.region (id := 25) (ops := C3.r.r.r.r.r.r.r.l.ops) (by kernel_rfl) ?_
          refine EL.quick 1 [2, 60] [(2, .int .u64 a10), (60, .int .u64 a10)] (by kernel_rfl) ?_
          obtain ⟨t3627, hc3628, H⟩ := b1_out H
          refine EL.of (EO.callD 19 [.int .u64 a10] _ 61 (by kernel_rfl) (by kernel_rfl) (by kernel_rfl) (rng_Step.calls hc3628 hS) ?_)
          rintro v w ⟨rfl, hS⟩
          refine EL.quick 1 [61, 62] [(61, .int .u64 t3627), (62, .int .u64 a10)] (by kernel_rfl) ?_
          obtain ⟨t3629, hc3630, H⟩ := b1_out H
          refine EL.of (EO.callD 16 [.int .u64 a10] _ 63 (by kernel_rfl) (by kernel_rfl) (by kernel_rfl) (confidantref15_Step.calls hc3630 hS) ?_)
          rintro v w ⟨rfl, hS⟩
          refine EL.quick 2 [6] [(6, .bool (decide (t3627 = t3629)))] (by kernel_rfl) ?_
          refine EL.done (by kernel_rfl) ?_
          refine EQ.code ?_
          refine EW.ret (by kernel_rfl) ?_
          obtain rfl := Option.some.inj H
          exact EQ.leave (.bool (decide (t3627 = t3629))) (by kernel_rfl) ⟨_, rfl, rfl, (hS.re [] [0] rfl (sub_self))⟩
  · rw [if_neg h1892] at H
    refine EW.seq (x := C3.r.l.r.l.l) (y := C3.r.l.r.l.r) (by kernel_rfl) ?_
    refine EW.region (id := 2) (ops := C3.r.l.r.l.l.ops) (by kernel_rfl) ?_
    refine EL.quick 1 [6] [(6, .bool (false))] (by kernel_rfl) ?_
    refine EL.done (by kernel_rfl) ?_
    refine EQ.code ?_
    refine EW.ret (by kernel_rfl) ?_
    refine EQ.ret ?_
    obtain rfl := Option.some.inj H
    exact EQ.leave (.bool (false)) (by kernel_rfl) ⟨_, rfl, rfl, (hS.re [] [] rfl (sub_self))⟩

def confidantlaw16_RngTells.Pure : Prop := ∀ (a6 : Int) (l7 : List Int) (a10 : Int), (Lit.int .u64 a6).wf = true → l7.length * 8 ≤ 140737488351232 → (∀ x ∈ l7, (Lit.int .i64 x).wf = true) → (Lit.int .u64 a10).wf = true → ∃ K, confidantlaw16_RngTells.f K a6 l7 a10 = some true

noncomputable def C4 : Code := bodyOf Try.f4

/-! ### confidant/confidantlaw16.RngBack: function 4 -/
def confidantlaw16_RngBack.f (K : Nat) (a4 : Int) (a5 : Int) (a6 : Int) : Option Bool := b1 (confidantlaw16_known.f K) fun (t46 : Bool) => (if t46 = true then (if (Int.tmod a6 64) < 0 then none else (b1 (rng_Step.f K a4) fun (t51 : Int) => (b1 (rng_Step.f K a5) fun (t53 : Int) => (if ((decide (t51 = t53)) == (decide (a4 = a5))) = true then (b1 (rng_Step.f K a4) fun (t56 : Int) => (b1 (rng_Step.f K (bX .u64 a4 (sL .u64 1 (Int.tmod a6 64)))) fun (t58 : Int) => (if t56 = t58 then (some false) else (b1 (rng_Step.f K a4) fun (t61 : Int) => (if ((decide (t61 = 0)) == (decide (a4 = 0))) = true then (b1 (rng_Step.f K a4) fun (t64 : Int) => (b1 (rng_Step.f K a5) fun (t66 : Int) => (b1 (rng_Step.f K (bX .u64 a4 a5)) fun (t68 : Int) => (some (decide ((bX .u64 t64 t66) = t68)))))) else (some false)))))) else (some false))))) else (some false))
set_option maxRecDepth 100000 in
theorem confidantlaw16_RngBack.calls {K : Nat} {a4 : Int} {a5 : Int} {a6 : Int} {x38 : Bool} {B w : World} {os : List Ass} {rs : List Ro} (H : confidantlaw16_RngBack.f K a4 a5 a6 = some x38) (hS : St B w (os) (rs)) :
    Calls Try.prog 4 [.int .u64 a4, .int .u64 a5, .int .u8 a6].toArray w (fun en w' => ∃ v, en = .returned v ∧ v = .bool (x38) ∧ St B w' (os) (rs)) := by
  unfold confidantlaw16_RngBack.f at H
  refine calls_of_EW (args := [.int .u64 a4, .int .u64 a5, .int .u8 a6]) (c := C4) 51 Try.func4 (by kernel_rfl) (by kernel_rfl) (by kernel_rfl) ?_
  refine EW.seq (x := C4.l) (y := C4.r) (by kernel_rfl) ?_
  refine EW.region (id := 0) (ops := C4.l.ops) (by kernel_rfl) ?_
  refine EL.quick 1 [0, 1, 2] [(0, .int .u64 a4), (1, .int .u64 a5), (2, .int .u8 a6)] (by kernel_rfl) ?_
  refine EL.done (by kernel_rfl) ?_
  refine EQ.code ?_
  refine EW.seq (x := C4.r.l) (y := C4.r.r) (by kernel_rfl) ?_
  refine EW.seq (x := C4.r.l.l) (y := C4.r.l.r) (by kernel_rfl) ?_
  refine EW.region (id := 1) (ops := C4.r.l.l.ops) (by kernel_rfl) ?_
  obtain ⟨t46, hc47, H⟩ := b1_out H
  refine EL.of (EO.callD 14 [] _ 8 (by kernel_rfl) (by kernel_rfl) (by kernel_rfl) (confidantlaw16_known.calls hc47 hS) ?_)
  rintro v w ⟨rfl, hS⟩
  refine EL.quick 1 [0, 1, 2, 9] [(0, .int .u64 a4), (1, .int .u64 a5), (2, .int .u8 a6), (9, .bool (!(t46)))] (by kernel_rfl) ?_
  refine EL.done (by kernel_rfl) ?_
  refine EQ.code ?_
  refine EW.condQ (b := !(t46)) (o := (.tmp 9)) (x := C4.r.l.r.l) (y := C4.r.l.r.r) (t46 = true) (false) (by kernel_rfl) (by kernel_rfl) (by constructor <;> intro h <;> simp [h]) (fun h48 => ?_) (fun h48 => ?_)
  · rw [if_pos h48] at H
    refine EW.skip (by kernel_rfl) ?_
    refine EQ.code ?_
    refine EW.seq (x := C4.r.r.l) (y := C4.r.r.r) (by kernel_rfl) ?_
    refine EW.region (id := 3) (ops := C4.r.r.l.ops) (by kernel_rfl) ?_
    refine EL.quick 3 [0, 1, 10, 12] [(0, .int .u64 a4), (1, .int .u64 a5), (10, .int .u64 a4), (12, .int .u8 (Int.tmod a6 64))] (by kernel_rfl) ?_
    obtain ⟨h50, H⟩ := ite_out H
    refine EL.of (EO.Y (YO.shift .shl .u64 .u8 1 (Int.tmod a6 64) (sL .u64 1 (Int.tmod a6 64)) 13 (by kernel_rfl) (by kernel_rfl) (by kernel_rfl) h50 (by first | exact .inl ⟨rfl, rfl⟩ | exact .inr ⟨rfl, rfl⟩)) ?_)
    refine EL.quick 2 [0, 1, 7] [(0, .int .u64 a4), (1, .int .u64 a5), (7, .int .u64 (bX .u64 a4 (sL .u64 1 (Int.tmod a6 64))))] (by kernel_rfl) ?_
    refine EL.done (by kernel_rfl) ?_
    refine EQ.code ?_
    refine EW.seq (x := C4.r.r.r.l) (y := C4.r.r.r.r) (by kernel_rfl) ?_
    refine EW.region (id := 4) (ops := C4.r.r.r.l.ops) (by kernel_rfl) ?_
    refine EL.quick 1 [0, 1, 7, 15] [(0, .int .u64 a4), (1, .int .u64 a5), (7, .int .u64 (bX .u64 a4 (sL .u64 1 (Int.tmod a6 64)))), (15, .int .u64 a4)] (by kernel_rfl) ?_
    obtain ⟨t51, hc52, H⟩ := b1_out H
    refine EL.of (EO.callD 19 [.int .u64 a4] _ 16 (by kernel_rfl) (by kernel_rfl) (by kernel_rfl) (rng_Step.calls hc52 hS) ?_)
    rintro v w ⟨rfl, hS⟩
    refine EL.quick 1 [0, 1, 7, 16, 17] [(0, .int .u64 a4), (1, .int .u64 a5), (7, .int .u64 (bX .u64 a4 (sL .u64 1 (Int.tmod a6 64)))), (16, .int .u64 t51), (17, .int .u64 a5)] (by kernel_rfl) ?_
    obtain ⟨t53, hc54, H⟩ := b1_out H
    refine EL.of (EO.callD 19 [.int .u64 a5] _ 18 (by kernel_rfl) (by kernel_rfl) (by kernel_rfl) (rng_Step.calls hc54 hS) ?_)
    rintro v w ⟨rfl, hS⟩
    refine EL.quick 6 [0, 1, 7, 24] [(0, .int .u64 a4), (1, .int .u64 a5), (7, .int .u64 (bX .u64 a4 (sL .u64 1 (Int.tmod a6 64)))), (24, .bool (((decide (t51 = t53)) == (decide (a4 = a5)))))] (by kernel_rfl) ?_
    by_cases h55 : ((decide (t51 = t53)) == (decide (a4 = a5))) = true
    · rw [if_pos h55] at H
      refine EL.keep [0, 1, 7, 24] [(0, .int .u64 a4), (1, .int .u64 a5), (7, .int .u64 (bX .u64 a4 (sL .u64 1 (Int.tmod a6 64)))), (24, .bool (((decide (t51 = t53)) == (decide (a4 = a5)))))] (by kernel_rfl) ?_
      refine EL.as' [(0, .int .u64 a4), (1, .int .u64 a5), (7, .int .u64 (bX .u64 a4 (sL .u64 1 (Int.tmod a6 64)))), (24, .bool (true))] (by simp only [h55, Bool.not_true, Bool.not_false]) ?_
      refine EL.quick 1 [0, 1, 7, 24, 25] [(0, .int .u64 a4), (1, .int .u64 a5), (7, .int .u64 (bX .u64 a4 (sL .u64 1 (Int.tmod a6 64)))), (24, .bool (true)), (25, .int .u64 a4)] (by kernel_rfl) ?_
      obtain ⟨t56, hc57, H⟩ := b1_out H
      refine EL.of (EO.callD 19 [.int .u64 a4] _ 26 (by kernel_rfl) (by kernel_rfl) (by kernel_rfl) (rng_Step.calls hc57 hS) ?_)
      rintro v w ⟨rfl, hS⟩
      refine EL.quick 1 [0, 1, 24, 26, 27] [(0, .int .u64 a4), (1, .int .u64 a5), (24, .bool (true)), (26, .int .u64 t56), (27, .int .u64 (bX .u64 a4 (sL .u64 1 (Int.tmod a6 64))))] (by kernel_rfl) ?_
      obtain ⟨t58, hc59, H⟩ := b1_out H
      refine EL.of (EO.callD 19 [.int .u64 (bX .u64 a4 (sL .u64 1 (Int.tmod a6 64)))] _ 28 (by kernel_rfl) (by kernel_rfl) (by kernel_rfl) (rng_Step.calls hc59 hS) ?_)
      rintro v w ⟨rfl, hS⟩
      refine EL.quick 3 [0, 1, 31] [(0, .int .u64 a4), (1, .int .u64 a5), (31, .bool (!(decide (t56 = t58))))] (by kernel_rfl) ?_
      by_cases h60 : t56 = t58
      · rw [if_pos h60] at H
        refine EL.keep [0, 1, 31] [(0, .int .u64 a4), (1, .int .u64 a5), (31, .bool (!(decide (t56 = t58))))] (by kernel_rfl) ?_
        refine EL.as' [(0, .int .u64 a4), (1, .int .u64 a5), (31, .bool (false))] (by simp only [dec_t h60, Bool.not_true, Bool.not_false]) ?_
        refine EL.quick 20 [6] [(6, .bool (false))] (by kernel_rfl) ?_
        refine EL.done (by kernel_rfl) ?_
        refine EQ.code ?_
        refine EW.ret (by kernel_rfl) ?_
        obtain rfl := Option.some.inj H
        exact EQ.leave (.bool (false)) (by kernel_rfl) ⟨_, rfl, rfl, (hS.re [] [] rfl (sub_self))⟩
      · rw [if_neg h60] at H
        refine EL.keep [0, 1, 31] [(0, .int .u64 a4), (1, .int .u64 a5), (31, .bool (!(decide (t56 = t58))))] (by kernel_rfl) ?_
        refine EL.as' [(0, .int .u64 a4), (1, .int .u64 a5), (31, .bool (true))] (by simp only [dec_f h60, Bool.not_true, Bool.not_false]) ?_
        refine EL.quick 1 [0, 1, 31, 32] [(0, .int .u64 a4), (1, .int .u64 a5), (31, .bool (true)), (32, .int .u64 a4)] (by kernel_rfl) ?_
        obtain ⟨t61, hc62, H⟩ := b1_out H
        refine EL.of (EO.callD 19 [.int .u64 a4] _ 33 (by kernel_rfl) (by kernel_rfl) (by kernel_rfl) (rng_Step.calls hc62 hS) ?_)
        rintro v w ⟨rfl, hS⟩
        refine EL.quick 6 [0, 1, 39] [(0, .int .u64 a4), (1, .int .u64 a5), (39, .bool (((decide (t61 = 0)) == (decide (a4 = 0)))))] (by kernel_rfl) ?_
        by_cases h63 : ((decide (t61 = 0)) == (decide (a4 = 0))) = true
        · rw [if_pos h63] at H
          refine EL.keep [0, 1, 39] [(0, .int .u64 a4), (1, .int .u64 a5), (39, .bool (((decide (t61 = 0)) == (decide (a4 = 0)))))] (by kernel_rfl) ?_
          refine EL.as' [(0, .int .u64 a4), (1, .int .u64 a5), (39, .bool (true))] (by simp only [h63, Bool.not_true, Bool.not_false]) ?_
          refine EL.quick 1 [0, 1, 39, 40] [(0, .int .u64 a4), (1, .int .u64 a5), (39, .bool (true)), (40, .int .u64 a4)] (by kernel_rfl) ?_
          obtain ⟨t64, hc65, H⟩ := b1_out H
          refine EL.of (EO.callD 19 [.int .u64 a4] _ 41 (by kernel_rfl) (by kernel_rfl) (by kernel_rfl) (rng_Step.calls hc65 hS) ?_)
          rintro v w ⟨rfl, hS⟩
          refine EL.quick 1 [0, 1, 39, 41, 42] [(0, .int .u64 a4), (1, .int .u64 a5), (39, .bool (true)), (41, .int .u64 t64), (42, .int .u64 a5)] (by kernel_rfl) ?_
          obtain ⟨t66, hc67, H⟩ := b1_out H
          refine EL.of (EO.callD 19 [.int .u64 a5] _ 43 (by kernel_rfl) (by kernel_rfl) (by kernel_rfl) (rng_Step.calls hc67 hS) ?_)
          rintro v w ⟨rfl, hS⟩
          refine EL.quick 4 [39, 44, 47] [(39, .bool (true)), (44, .int .u64 (bX .u64 t64 t66)), (47, .int .u64 (bX .u64 a4 a5))] (by kernel_rfl) ?_
          obtain ⟨t68, hc69, H⟩ := b1_out H
          refine EL.of (EO.callD 19 [.int .u64 (bX .u64 a4 a5)] _ 48 (by kernel_rfl) (by kernel_rfl) (by kernel_rfl) (rng_Step.calls hc69 hS) ?_)
          rintro v w ⟨rfl, hS⟩
          refine EL.quick 3 [6] [(6, .bool (decide ((bX .u64 t64 t66) = t68)))] (by kernel_rfl) ?_
          refine EL.done (by kernel_rfl) ?_
          refine EQ.code ?_
          refine EW.ret (by kernel_rfl) ?_
          obtain rfl := Option.some.inj H
          exact EQ.leave (.bool (decide ((bX .u64 t64 t66) = t68))) (by kernel_rfl) ⟨_, rfl, rfl, (hS.re [] [] rfl (sub_self))⟩
        · rw [if_neg h63] at H
          refine EL.keep [0, 1, 39] [(0, .int .u64 a4), (1, .int .u64 a5), (39, .bool (((decide (t61 = 0)) == (decide (a4 = 0)))))] (by kernel_rfl) ?_
          refine EL.as' [(0, .int .u64 a4), (1, .int .u64 a5), (39, .bool (false))] (by simp only [(Bool.eq_false_iff.2 h63), Bool.not_true, Bool.not_false]) ?_
          refine EL.quick 12 [6] [(6, .bool (false))] (by kernel_rfl) ?_
          refine EL.done (by kernel_rfl) ?_
          refine EQ.code ?_
          refine EW.ret (by kernel_rfl) ?_
          obtain rfl := Option.some.inj H
          exact EQ.leave (.bool (false)) (by kernel_rfl) ⟨_, rfl, rfl, (hS.re [] [] rfl (sub_self))⟩
    · rw [if_neg h55] at H
      refine EL.keep [0, 1, 7, 24] [(0, .int .u64 a4), (1, .int .u64 a5), (7, .int .u64 (bX .u64 a4 (sL .u64 1 (Int.tmod a6 64)))), (24, .bool (((decide (t51 = t53)) == (decide (a4 = a5)))))] (by kernel_rfl) ?_
      refine EL.as' [(0, .int .u64 a4), (1, .int .u64 a5), (7, .int .u64 (bX .u64 a4 (sL .u64 1 (Int.tmod a6 64)))), (24, .bool (false))] (by simp only [(Bool.eq_false_iff.2 h55), Bool.not_true, Bool.not_false]) ?_
      refine EL.quick 27 [6] [(6, .bool (false))] (by kernel_rfl) ?_
      refine EL.done (by kernel_rfl) ?_
      refine EQ.code ?_
      refine EW.ret (by kernel_rfl) ?_
      obtain rfl := Option.some.inj H
      exact EQ.leave (.bool (false)) (by kernel_rfl) ⟨_, rfl, rfl, (hS.re [] [] rfl (sub_self))⟩
  · rw [if_neg h48] at H
    refine EW.seq (x := C4.r.l.r.l.l) (y := C4.r.l.r.l.r) (by kernel_rfl) ?_
    refine EW.region (id := 2) (ops := C4.r.l.r.l.l.ops) (by kernel_rfl) ?_
    refine EL.quick 1 [6] [(6, .bool (false))] (by kernel_rfl) ?_
    refine EL.done (by kernel_rfl) ?_
    refine EQ.code ?_
    refine EW.ret (by kernel_rfl) ?_
    refine EQ.ret ?_
    obtain rfl := Option.some.inj H
    exact EQ.leave (.bool (false)) (by kernel_rfl) ⟨_, rfl, rfl, (hS.re [] [] rfl (sub_self))⟩

def confidantlaw16_RngBack.Pure : Prop := ∀ (a4 : Int) (a5 : Int) (a6 : Int), (Lit.int .u64 a4).wf = true → (Lit.int .u64 a5).wf = true → (Lit.int .u8 a6).wf = true → ∃ K, confidantlaw16_RngBack.f K a4 a5 a6 = some true

noncomputable def C5 : Code := bodyOf Try.f5

/-! ### confidant/confidantlaw16.RngLong: function 5 -/
def confidantlaw16_RngLong.l0 (K : Nat) (a4 : Int) (j458 : Int → Int → Option Bool) : Nat → Int → Int → Int → Option Bool
  | 0, _, _, _ => none
  | n + 1, x485, x486, x487 => if x487 < (IntKind.i64.wrap a4) then (b2 (rng_Rng_Next.f K x486) fun (t528 : Int) (t529 : Int) => (b2 (rng_Rng_Next.f K x485) fun (t531 : Int) (t532 : Int) => (confidantlaw16_RngLong.l0 K a4 j458 n t531 t528 (IntKind.i64.wrap (x487 + 1))))) else (j458 x485 x486)
def confidantlaw16_RngLong.f (K : Nat) (a3 : Int) (a4 : Int) : Option Bool := b1 (confidantlaw16_known.f K) fun (t291 : Bool) => (if t291 = true then (b1 (rng_New.f K a3) fun (t300 : Int) => (b1 (rng_New.f K a3) fun (t303 : Int) => (lt (fun (x456 : Int) (x457 : Int) => (b2 (rng_Rng_Next.f K x457) fun (t537 : Int) (t538 : Int) => (b1 (rng_New.f K t538) fun (t543 : Int) => (if t538 = 0 then (some false) else (b2 (rng_Rng_Next.f K x456) fun (t547 : Int) (t548 : Int) => (if t538 = t548 then (b2 (rng_Rng_Next.f K t543) fun (t551 : Int) (t552 : Int) => (b1 (rng_Step.f K t538) fun (t554 : Int) => (if t552 = t554 then (b2 (rng_Rng_Next.f K t537) fun (t557 : Int) (t558 : Int) => (b1 (rng_Step.f K t538) fun (t560 : Int) => (some (decide (t558 = t560))))) else (some false)))) else (some false))))))) fun j458 => (confidantlaw16_RngLong.l0 K a4 j458 K t303 t300 0)))) else (some false))
set_option maxRecDepth 100000 in
theorem confidantlaw16_RngLong.calls {K : Nat} {a3 : Int} {a4 : Int} {x283 : Bool} {B w : World} {os : List Ass} {rs : List Ro} (H : confidantlaw16_RngLong.f K a3 a4 = some x283) (hS : St B w (os) (rs)) :
    Calls Try.prog 5 [.int .u64 a3, .int .u8 a4].toArray w (fun en w' => ∃ v, en = .returned v ∧ v = .bool (x283) ∧ St B w' (os) (rs)) := by
  unfold confidantlaw16_RngLong.f at H
  refine calls_of_EW (args := [.int .u64 a3, .int .u8 a4]) (c := C5) 52 Try.func5 (by kernel_rfl) (by kernel_rfl) (by kernel_rfl) ?_
  refine EW.seq (x := C5.l) (y := C5.r) (by kernel_rfl) ?_
  refine EW.region (id := 0) (ops := C5.l.ops) (by kernel_rfl) ?_
  refine EL.quick 1 [0, 1] [(0, .int .u64 a3), (1, .int .u8 a4)] (by kernel_rfl) ?_
  refine EL.done (by kernel_rfl) ?_
  refine EQ.code ?_
  refine EW.seq (x := C5.r.l) (y := C5.r.r) (by kernel_rfl) ?_
  refine EW.seq (x := C5.r.l.l) (y := C5.r.l.r) (by kernel_rfl) ?_
  refine EW.region (id := 1) (ops := C5.r.l.l.ops) (by kernel_rfl) ?_
  obtain ⟨t291, hc292, H⟩ := b1_out H
  refine EL.of (EO.callD 14 [] _ 10 (by kernel_rfl) (by kernel_rfl) (by kernel_rfl) (confidantlaw16_known.calls hc292 hS) ?_)
  rintro v w ⟨rfl, hS⟩
  refine EL.quick 1 [0, 1, 11] [(0, .int .u64 a3), (1, .int .u8 a4), (11, .bool (!(t291)))] (by kernel_rfl) ?_
  refine EL.done (by kernel_rfl) ?_
  refine EQ.code ?_
  refine EW.condQ (b := !(t291)) (o := (.tmp 11)) (x := C5.r.l.r.l) (y := C5.r.l.r.r) (t291 = true) (false) (by kernel_rfl) (by kernel_rfl) (by constructor <;> intro h <;> simp [h]) (fun h293 => ?_) (fun h293 => ?_)
  · rw [if_pos h293] at H
    refine EW.skip (by kernel_rfl) ?_
    refine EQ.code ?_
    refine EW.seq (x := C5.r.r.l) (y := C5.r.r.r) (by kernel_rfl) ?_
    refine EW.region (id := 3) (ops := C5.r.r.l.ops) (by kernel_rfl) ?_
    refine EL.quick 1 [0, 1, 12] [(0, .int .u64 a3), (1, .int .u8 a4), (12, .int .u64 a3)] (by kernel_rfl) ?_
    obtain ⟨t300, hc302, H⟩ := b1_out H
    refine EL.of (EO.callD 15 [.int .u64 a3] _ 13 (by kernel_rfl) (by kernel_rfl) (by kernel_rfl) (rng_New.calls hc302 hS) ?_)
    rintro v w ⟨g301, rfl, hS⟩
    refine EL.quick 1 [1, 13, 14] [(1, .int .u8 a4), (13, .pointer (some ⟨g301, 0, none⟩)), (14, .int .u64 a3)] (by kernel_rfl) ?_
    obtain ⟨t303, hc305, H⟩ := b1_out H
    refine EL.of (EO.callD 15 [.int .u64 a3] _ 15 (by kernel_rfl) (by kernel_rfl) (by kernel_rfl) (rng_New.calls hc305 hS) ?_)
    rintro v w ⟨g304, rfl, hS⟩
    refine EL.quick 2 [1, 5, 6] [(1, .int .u8 a4), (5, .pointer (some ⟨g301, 0, none⟩)), (6, .pointer (some ⟨g304, 0, none⟩))] (by kernel_rfl) ?_
    refine EL.done (by kernel_rfl) ?_
    refine EQ.code ?_
    obtain ⟨j458, hj458, H⟩ := lt_out H
    refine EW.cut (x := C5.r.r.r.l) (y := C5.r.r.r.r) (fun a w => ∃ x456 : Int, ∃ x457 : Int, Sat 52 [(5, .pointer (some ⟨g301, 0, none⟩)), (6, .pointer (some ⟨g304, 0, none⟩))] a ∧ St B w (Ass.box 59 g304 [.int .u64 x456] :: Ass.box 59 g301 [.int .u64 x457] :: os) (rs) ∧ j458 x456 x457 = some x283) (by kernel_rfl) ?_ (fun a w hI => ?_)
    · refine EW.seq (x := C5.r.r.r.l.l) (y := C5.r.r.r.l.r) (by kernel_rfl) ?_
      refine EW.region (id := 4) (ops := C5.r.r.r.l.l.ops) (by kernel_rfl) ?_
      refine EL.quick 1 [1, 5, 6, 7] [(1, .int .u8 a4), (5, .pointer (some ⟨g301, 0, none⟩)), (6, .pointer (some ⟨g304, 0, none⟩)), (7, .int .i64 0)] (by kernel_rfl) ?_
      refine EL.done (by kernel_rfl) ?_
      refine EQ.code ?_
      refine EW.block (x := C5.r.r.r.l.r.l) (id := 0) (by kernel_rfl) ?_
      refine EW.loop (x := C5.r.r.r.l.r.l.l) (fun n a w => ∃ x485 : Int, ∃ x486 : Int, ∃ x487 : Int, Sat 52 [(1, .int .u8 a4), (5, .pointer (some ⟨g301, 0, none⟩)), (6, .pointer (some ⟨g304, 0, none⟩)), (7, .int .i64 x487)] a ∧ St B w (Ass.box 59 g304 [.int .u64 x485] :: Ass.box 59 g301 [.int .u64 x486] :: os) (rs) ∧ confidantlaw16_RngLong.l0 K a4 j458 n x485 x486 x487 = some x283) K (by kernel_rfl) ?_ (fun n a w hI => ?_)
      · refine EQ.keep [1, 5, 6, 7] [(1, .int .u8 a4), (5, .pointer (some ⟨g301, 0, none⟩)), (6, .pointer (some ⟨g304, 0, none⟩)), (7, .int .i64 0)] (by kernel_rfl) ?_
        exact fun a ha => ⟨t303, t300, 0, ha, (hS.re [1, 1] [] rfl (sub_self)), H⟩
      · obtain ⟨x485, x486, x487, ha, hS, H⟩ := hI
        obtain _ | n := n
        · simp [confidantlaw16_RngLong.l0] at H
        rw [confidantlaw16_RngLong.l0.eq_2] at H
        refine EW.at ?_ a ha
        clear ha a
        refine EW.seq (x := C5.r.r.r.l.r.l.l.l) (y := C5.r.r.r.l.r.l.l.r) (by kernel_rfl) ?_
        refine EW.seq (x := C5.r.r.r.l.r.l.l.l.l) (y := C5.r.r.r.l.r.l.l.l.r) (by kernel_rfl) ?_
        refine EW.region (id := 5) (ops := C5.r.r.r.l.r.l.l.l.l.ops) (by kernel_rfl) ?_
        refine EL.quick 4 [1, 5, 6, 7, 19] [(1, .int .u8 a4), (5, .pointer (some ⟨g301, 0, none⟩)), (6, .pointer (some ⟨g304, 0, none⟩)), (7, .int .i64 x487), (19, .bool (decide (x487 < (IntKind.i64.wrap a4))))] (by kernel_rfl) ?_
        refine EL.done (by kernel_rfl) ?_
        refine EQ.code ?_
        refine EW.condP (o := (.tmp 19)) (x := C5.r.r.r.l.r.l.l.l.r.l) (y := C5.r.r.r.l.r.l.l.l.r.r) (x487 < (IntKind.i64.wrap a4)) (by kernel_rfl) (by kernel_rfl) (fun h515 => ?_) (fun h515 => ?_)
        · rw [if_pos h515] at H
          refine EW.skip (by kernel_rfl) ?_
          refine EQ.code ?_
          refine EW.seq (x := C5.r.r.r.l.r.l.l.r.l) (y := C5.r.r.r.l.r.l.l.r.r) (by kernel_rfl) ?_
          refine EW.block (x := C5.r.r.r.l.r.l.l.r.l.l) (id := 1) (by kernel_rfl) ?_
          refine EW.seq (x := C5.r.r.r.l.r.l.l.r.l.l.l) (y := C5.r.r.r.l.r.l.l.r.l.l.r) (by kernel_rfl) ?_
          refine EW.region (id := 7) (ops := C5.r.r.r.l.r.l.l.r.l.l.l.ops) (by kernel_rfl) ?_
          refine EL.quick 1 [1, 5, 6, 7, 22] [(1, .int .u8 a4), (5, .pointer (some ⟨g301, 0, none⟩)), (6, .pointer (some ⟨g304, 0, none⟩)), (7, .int .i64 x487), (22, .pointer (some ⟨g301, 0, none⟩))] (by kernel_rfl) ?_
          have hS : St B _ (Ass.box 59 g301 [.int .u64 x486] :: Ass.box 59 g304 [.int .u64 x485] :: os) (rs) := hS.re [1] [] rfl sub_self
          obtain ⟨t528, t529, hc530, H⟩ := b2_out H
          refine EL.of (EO.callD 17 [.pointer (some ⟨g301, 0, none⟩)] _ 23 (by kernel_rfl) (by kernel_rfl) (by kernel_rfl) (rng_Rng_Next.calls hc530 hS) ?_)
          rintro v w ⟨rfl, hS⟩
          refine EL.done (by kernel_rfl) ?_
          refine EQ.code ?_
          refine EW.region (id := 8) (ops := C5.r.r.r.l.r.l.l.r.l.l.r.ops) (by kernel_rfl) ?_
          refine EL.quick 1 [1, 5, 6, 7, 24] [(1, .int .u8 a4), (5, .pointer (some ⟨g301, 0, none⟩)), (6, .pointer (some ⟨g304, 0, none⟩)), (7, .int .i64 x487), (24, .pointer (some ⟨g304, 0, none⟩))] (by kernel_rfl) ?_
          have hS : St B _ (Ass.box 59 g304 [.int .u64 x485] :: Ass.box 59 g301 [.int .u64 t528] :: os) (rs) := hS.re [1] [] rfl sub_self
          obtain ⟨t531, t532, hc533, H⟩ := b2_out H
          refine EL.of (EO.callD 17 [.pointer (some ⟨g304, 0, none⟩)] _ 25 (by kernel_rfl) (by kernel_rfl) (by kernel_rfl) (rng_Rng_Next.calls hc533 hS) ?_)
          rintro v w ⟨rfl, hS⟩
          refine EL.done (by kernel_rfl) ?_
          refine EQ.pop ?_
          refine EQ.code ?_
          refine EW.region (id := 6) (ops := C5.r.r.r.l.r.l.l.r.r.ops) (by kernel_rfl) ?_
          refine EL.quick 3 [1, 5, 6, 7] [(1, .int .u8 a4), (5, .pointer (some ⟨g301, 0, none⟩)), (6, .pointer (some ⟨g304, 0, none⟩)), (7, .int .i64 (IntKind.i64.wrap (x487 + 1)))] (by kernel_rfl) ?_
          refine EL.done (by kernel_rfl) ?_
          refine EQ.to ?_
          refine EQ.keep [1, 5, 6, 7] [(1, .int .u8 a4), (5, .pointer (some ⟨g301, 0, none⟩)), (6, .pointer (some ⟨g304, 0, none⟩)), (7, .int .i64 (IntKind.i64.wrap (x487 + 1)))] (by kernel_rfl) ?_
          exact fun a ha => ⟨n, Nat.lt_succ_self n, t531, t528, IntKind.i64.wrap (x487 + 1), ha, (hS.re [1, 1] [] rfl (sub_self)), H⟩
        · rw [if_neg h515] at H
          refine EW.exit (id := 0) (by kernel_rfl) ?_
          refine EQ.exitCode ?_
          refine EQ.exitTo ?_
          refine EQ.exitHere ?_
          refine EQ.to ?_
          refine EQ.keep [5, 6] [(5, .pointer (some ⟨g301, 0, none⟩)), (6, .pointer (some ⟨g304, 0, none⟩))] (by kernel_rfl) ?_
          exact fun a ha => ⟨x485, x486, ha, (hS.re [1, 1] [] rfl (sub_self)), H⟩
    · obtain ⟨x456, x457, ha, hS, H⟩ := hI
      rw [hj458] at H
      (try dsimp only at H)
      refine EW.at ?_ a ha
      clear ha a
      refine EW.seq (x := C5.r.r.r.r.l) (y := C5.r.r.r.r.r) (by kernel_rfl) ?_
      refine EW.region (id := 9) (ops := C5.r.r.r.r.l.ops) (by kernel_rfl) ?_
      refine EL.quick 1 [5, 6, 26] [(5, .pointer (some ⟨g301, 0, none⟩)), (6, .pointer (some ⟨g304, 0, none⟩)), (26, .pointer (some ⟨g301, 0, none⟩))] (by kernel_rfl) ?_
      have hS : St B _ (Ass.box 59 g301 [.int .u64 x457] :: Ass.box 59 g304 [.int .u64 x456] :: os) (rs) := hS.re [1] [] rfl sub_self
      obtain ⟨t537, t538, hc539, H⟩ := b2_out H
      refine EL.of (EO.callD 17 [.pointer (some ⟨g301, 0, none⟩)] _ 27 (by kernel_rfl) (by kernel_rfl) (by kernel_rfl) (rng_Rng_Next.calls hc539 hS) ?_)
      rintro v w ⟨rfl, hS⟩
      refine EL.quick 1 [5, 6, 8] [(5, .pointer (some ⟨g301, 0, none⟩)), (6, .pointer (some ⟨g304, 0, none⟩)), (8, .int .u64 t538)] (by kernel_rfl) ?_
      refine EL.done (by kernel_rfl) ?_
      refine EQ.code ?_
      refine EW.seq (x := C5.r.r.r.r.r.l) (y := C5.r.r.r.r.r.r) (by kernel_rfl) ?_
      refine EW.region (id := 10) (ops := C5.r.r.r.r.r.l.ops) (by kernel_rfl) ?_
      refine EL.quick 1 [5, 6, 8, 28] [(5, .pointer (some ⟨g301, 0, none⟩)), (6, .pointer (some ⟨g304, 0, none⟩)), (8, .int .u64 t538), (28, .int .u64 t538)] (by kernel_rfl) ?_
      obtain ⟨t543, hc545, H⟩ := b1_out H
      refine EL.of (EO.callD 15 [.int .u64 t538] _ 29 (by kernel_rfl) (by kernel_rfl) (by kernel_rfl) (rng_New.calls hc545 hS) ?_)
      rintro v w ⟨g544, rfl, hS⟩
      refine EL.quick 1 [5, 6, 8, 9] [(5, .pointer (some ⟨g301, 0, none⟩)), (6, .pointer (some ⟨g304, 0, none⟩)), (8, .int .u64 t538), (9, .pointer (some ⟨g544, 0, none⟩))] (by kernel_rfl) ?_
      refine EL.done (by kernel_rfl) ?_
      refine EQ.code ?_
      refine EW.seq (x := C5.r.r.r.r.r.r.l) (y := C5.r.r.r.r.r.r.r) (by kernel_rfl) ?_
      refine EW.region (id := 11) (ops := C5.r.r.r.r.r.r.l.ops) (by kernel_rfl) ?_
      refine EL.quick 3 [5, 6, 8, 9, 32] [(5, .pointer (some ⟨g301, 0, none⟩)), (6, .pointer (some ⟨g304, 0, none⟩)), (8, .int .u64 t538), (9, .pointer (some ⟨g544, 0, none⟩)), (32, .bool (!(decide (t538 = 0))))] (by kernel_rfl) ?_
      by_cases h546 : t538 = 0
      · rw [if_pos h546] at H
        refine EL.keep [5, 6, 8, 9, 32] [(5, .pointer (some ⟨g301, 0, none⟩)), (6, .pointer (some ⟨g304, 0, none⟩)), (8, .int .u64 t538), (9, .pointer (some ⟨g544, 0, none⟩)), (32, .bool (!(decide (t538 = 0))))] (by kernel_rfl) ?_
        refine EL.as' [(5, .pointer (some ⟨g301, 0, none⟩)), (6, .pointer (some ⟨g304, 0, none⟩)), (8, .int .u64 t538), (9, .pointer (some ⟨g544, 0, none⟩)), (32, .bool (false))] (by simp only [dec_t h546, Bool.not_true, Bool.not_false]) ?_
        refine EL.quick 20 [4] [(4, .bool (false))] (by kernel_rfl) ?_
        refine EL.done (by kernel_rfl) ?_
        refine EQ.code ?_
        refine EW.ret (by kernel_rfl) ?_
        obtain rfl := Option.some.inj H
        exact EQ.leave (.bool (false)) (by kernel_rfl) ⟨_, rfl, rfl, (hS.re [] [0, 0, 0] rfl (sub_self))⟩
      · rw [if_neg h546] at H
        refine EL.keep [5, 6, 8, 9, 32] [(5, .pointer (some ⟨g301, 0, none⟩)), (6, .pointer (some ⟨g304, 0, none⟩)), (8, .int .u64 t538), (9, .pointer (some ⟨g544, 0, none⟩)), (32, .bool (!(decide (t538 = 0))))] (by kernel_rfl) ?_
        refine EL.as' [(5, .pointer (some ⟨g301, 0, none⟩)), (6, .pointer (some ⟨g304, 0, none⟩)), (8, .int .u64 t538), (9, .pointer (some ⟨g544, 0, none⟩)), (32, .bool (true))] (by simp only [dec_f h546, Bool.not_true, Bool.not_false]) ?_
        refine EL.quick 2 [5, 8, 9, 32, 33, 34] [(5, .pointer (some ⟨g301, 0, none⟩)), (8, .int .u64 t538), (9, .pointer (some ⟨g544, 0, none⟩)), (32, .bool (true)), (33, .int .u64 t538), (34, .pointer (some ⟨g304, 0, none⟩))] (by kernel_rfl) ?_
        have hS : St B _ (Ass.box 59 g304 [.int .u64 x456] :: Ass.box 59 g544 [.int .u64 t543] :: Ass.box 59 g301 [.int .u64 t537] :: os) (rs) := hS.re [2] [] rfl sub_self
        obtain ⟨t547, t548, hc549, H⟩ := b2_out H
        refine EL.of (EO.callD 17 [.pointer (some ⟨g304, 0, none⟩)] _ 35 (by kernel_rfl) (by kernel_rfl) (by kernel_rfl) (rng_Rng_Next.calls hc549 hS) ?_)
        rintro v w ⟨rfl, hS⟩
        refine EL.quick 3 [5, 8, 9, 38] [(5, .pointer (some ⟨g301, 0, none⟩)), (8, .int .u64 t538), (9, .pointer (some ⟨g544, 0, none⟩)), (38, .bool (decide (t538 = t548)))] (by kernel_rfl) ?_
        by_cases h550 : t538 = t548
        · rw [if_pos h550] at H
          refine EL.keep [5, 8, 9, 38] [(5, .pointer (some ⟨g301, 0, none⟩)), (8, .int .u64 t538), (9, .pointer (some ⟨g544, 0, none⟩)), (38, .bool (decide (t538 = t548)))] (by kernel_rfl) ?_
          refine EL.as' [(5, .pointer (some ⟨g301, 0, none⟩)), (8, .int .u64 t538), (9, .pointer (some ⟨g544, 0, none⟩)), (38, .bool (true))] (by simp only [dec_t h550, Bool.not_true, Bool.not_false]) ?_
          refine EL.quick 1 [5, 8, 38, 39] [(5, .pointer (some ⟨g301, 0, none⟩)), (8, .int .u64 t538), (38, .bool (true)), (39, .pointer (some ⟨g544, 0, none⟩))] (by kernel_rfl) ?_
          have hS : St B _ (Ass.box 59 g544 [.int .u64 t543] :: Ass.box 59 g304 [.int .u64 t547] :: Ass.box 59 g301 [.int .u64 t537] :: os) (rs) := hS.re [1] [] rfl sub_self
          obtain ⟨t551, t552, hc553, H⟩ := b2_out H
          refine EL.of (EO.callD 17 [.pointer (some ⟨g544, 0, none⟩)] _ 40 (by kernel_rfl) (by kernel_rfl) (by kernel_rfl) (rng_Rng_Next.calls hc553 hS) ?_)
          rintro v w ⟨rfl, hS⟩
          refine EL.quick 1 [5, 8, 38, 40, 41] [(5, .pointer (some ⟨g301, 0, none⟩)), (8, .int .u64 t538), (38, .bool (true)), (40, .int .u64 t552), (41, .int .u64 t538)] (by kernel_rfl) ?_
          obtain ⟨t554, hc555, H⟩ := b1_out H
          refine EL.of (EO.callD 19 [.int .u64 t538] _ 42 (by kernel_rfl) (by kernel_rfl) (by kernel_rfl) (rng_Step.calls hc555 hS) ?_)
          rintro v w ⟨rfl, hS⟩
          refine EL.quick 3 [5, 8, 45] [(5, .pointer (some ⟨g301, 0, none⟩)), (8, .int .u64 t538), (45, .bool (decide (t552 = t554)))] (by kernel_rfl) ?_
          by_cases h556 : t552 = t554
          · rw [if_pos h556] at H
            refine EL.keep [5, 8, 45] [(5, .pointer (some ⟨g301, 0, none⟩)), (8, .int .u64 t538), (45, .bool (decide (t552 = t554)))] (by kernel_rfl) ?_
            refine EL.as' [(5, .pointer (some ⟨g301, 0, none⟩)), (8, .int .u64 t538), (45, .bool (true))] (by simp only [dec_t h556, Bool.not_true, Bool.not_false]) ?_
            refine EL.quick 1 [8, 45, 46] [(8, .int .u64 t538), (45, .bool (true)), (46, .pointer (some ⟨g301, 0, none⟩))] (by kernel_rfl) ?_
            have hS : St B _ (Ass.box 59 g301 [.int .u64 t537] :: Ass.box 59 g544 [.int .u64 t551] :: Ass.box 59 g304 [.int .u64 t547] :: os) (rs) := hS.re [2] [] rfl sub_self
            obtain ⟨t557, t558, hc559, H⟩ := b2_out H
            refine EL.of (EO.callD 17 [.pointer (some ⟨g301, 0, none⟩)] _ 47 (by kernel_rfl) (by kernel_rfl) (by kernel_rfl) (rng_Rng_Next.calls hc559 hS) ?_)
            rintro v w ⟨rfl, hS⟩
            refine EL.quick 1 [45, 47, 48] [(45, .bool (true)), (47, .int .u64 t558), (48, .int .u64 t538)] (by kernel_rfl) ?_
            obtain ⟨t560, hc561, H⟩ := b1_out H
            refine EL.of (EO.callD 19 [.int .u64 t538] _ 49 (by kernel_rfl) (by kernel_rfl) (by kernel_rfl) (rng_Step.calls hc561 hS) ?_)
            rintro v w ⟨rfl, hS⟩
            refine EL.quick 3 [4] [(4, .bool (decide (t558 = t560)))] (by kernel_rfl) ?_
            refine EL.done (by kernel_rfl) ?_
            refine EQ.code ?_
            refine EW.ret (by kernel_rfl) ?_
            obtain rfl := Option.some.inj H
            exact EQ.leave (.bool (decide (t558 = t560))) (by kernel_rfl) ⟨_, rfl, rfl, (hS.re [] [0, 0, 0] rfl (sub_self))⟩
          · rw [if_neg h556] at H
            refine EL.keep [5, 8, 45] [(5, .pointer (some ⟨g301, 0, none⟩)), (8, .int .u64 t538), (45, .bool (decide (t552 = t554)))] (by kernel_rfl) ?_
            refine EL.as' [(5, .pointer (some ⟨g301, 0, none⟩)), (8, .int .u64 t538), (45, .bool (false))] (by simp only [dec_f h556, Bool.not_true, Bool.not_false]) ?_
            refine EL.quick 7 [4] [(4, .bool (false))] (by kernel_rfl) ?_
            refine EL.done (by kernel_rfl) ?_
            refine EQ.code ?_
            refine EW.ret (by kernel_rfl) ?_
            obtain rfl := Option.some.inj H
            exact EQ.leave (.bool (false)) (by kernel_rfl) ⟨_, rfl, rfl, (hS.re [] [0, 0, 0] rfl (sub_self))⟩
        · rw [if_neg h550] at H
          refine EL.keep [5, 8, 9, 38] [(5, .pointer (some ⟨g301, 0, none⟩)), (8, .int .u64 t538), (9, .pointer (some ⟨g544, 0, none⟩)), (38, .bool (decide (t538 = t548)))] (by kernel_rfl) ?_
          refine EL.as' [(5, .pointer (some ⟨g301, 0, none⟩)), (8, .int .u64 t538), (9, .pointer (some ⟨g544, 0, none⟩)), (38, .bool (false))] (by simp only [dec_f h550, Bool.not_true, Bool.not_false]) ?_
          refine EL.quick 14 [4] [(4, .bool (false))] (by kernel_rfl) ?_
          refine EL.done (by kernel_rfl) ?_
          refine EQ.code ?_
          refine EW.ret (by kernel_rfl) ?_
          obtain rfl := Option.some.inj H
          exact EQ.leave (.bool (false)) (by kernel_rfl) ⟨_, rfl, rfl, (hS.re [] [0, 0, 0] rfl (sub_self))⟩
  · rw [if_neg h293] at H
    refine EW.seq (x := C5.r.l.r.l.l) (y := C5.r.l.r.l.r) (by kernel_rfl) ?_
    refine EW.region (id := 2) (ops := C5.r.l.r.l.l.ops) (by kernel_rfl) ?_
    refine EL.quick 1 [4] [(4, .bool (false))] (by kernel_rfl) ?_
    refine EL.done (by kernel_rfl) ?_
    refine EQ.code ?_
    refine EW.ret (by kernel_rfl) ?_
    refine EQ.ret ?_
    obtain rfl := Option.some.inj H
    exact EQ.leave (.bool (false)) (by kernel_rfl) ⟨_, rfl, rfl, (hS.re [] [] rfl (sub_self))⟩

def confidantlaw16_RngLong.Pure : Prop := ∀ (a3 : Int) (a4 : Int), (Lit.int .u64 a3).wf = true → (Lit.int .u8 a4).wf = true → ∃ K, confidantlaw16_RngLong.f K a3 a4 = some true

noncomputable def C6 : Code := bodyOf Try.f6

/-! ### confidant/confidantlaw16.RngSpreads: function 6 -/
def confidantlaw16_RngSpreads.l1 (K : Nat) (x4828 : Int) (j5595 : Int → Option Bool) : Nat → Int → Int → Option Bool
  | 0, _, _ => none
  | n + 1, x5608, x5609 => if x5609 < x4828 then (b2 (rng_Rng_Next.f K x5608) fun (t5627 : Int) (t5628 : Int) => (confidantlaw16_RngSpreads.l1 K x4828 j5595 n t5627 (IntKind.i64.wrap (x5609 + 1)))) else (j5595 x5608)
def confidantlaw16_RngSpreads.l0 (K : Nat) (a6 : Int) (a4 : Int) (a5 : Int) (j4720 : Int → Option Bool) : Nat → Int → Int → Option Bool
  | 0, _, _ => none
  | n + 1, x4827, x4828 => if x4828 < (IntKind.i64.wrap (Int.tmod a6 50)) then (lt (fun (x5517 : Int) (x5518 : Int) => (confidantlaw16_RngSpreads.l0 K a6 a4 a5 j4720 n x5517 (IntKind.i64.wrap (x4828 + 1)))) fun j5519 => (b1 (rng_New.f K a4) fun (t5523 : Int) => (lt (fun (x5594 : Int) => (b2 (rng_Rng_Next.f K x5594) fun (t5635 : Int) (t5636 : Int) => (if (IntKind.u64.wrap (IntKind.i64.wrap ((IntKind.i64.wrap a5) + 1))) = 0 then none else (lt (Int.tmod t5636 (IntKind.u64.wrap (IntKind.i64.wrap ((IntKind.i64.wrap a5) + 1)))) fun y5639 => (b2 (rng_Rng_Below.f K x4827 (IntKind.i64.wrap ((IntKind.i64.wrap a5) + 1))) fun (t5643 : Int) (t5644 : Int) => (lt (fun (x5650 : Bool) => (if x5650 = true then (some false) else (j5519 t5643 t5635))) fun j5651 => (if t5644 < 0 then (j5651 true) else (if t5644 ≥ (IntKind.i64.wrap ((IntKind.i64.wrap a5) + 1)) then (j5651 true) else (j5651 (!(decide ((IntKind.u64.wrap t5644) = y5639)))))))))))) fun j5595 => (confidantlaw16_RngSpreads.l1 K x4828 j5595 K t5523 0)))) else (j4720 x4827)
def confidantlaw16_RngSpreads.f (K : Nat) (a4 : Int) (a5 : Int) (a6 : Int) : Option Bool := b1 (confidantlaw16_known.f K) fun (t2842 : Bool) => (if t2842 = true then (b1 (rng_New.f K a4) fun (t2848 : Int) => (lt (fun (x4719 : Int) => (b2 (rng_Rng_Below.f K x4719 (-1)) fun (t5655 : Int) (t5656 : Int) => (if t5656 = 0 then (b2 (rng_Rng_Below.f K t5655 1) fun (t5659 : Int) (t5660 : Int) => (some (decide (t5660 = 0)))) else (some false)))) fun j4720 => (confidantlaw16_RngSpreads.l0 K a6 a4 a5 j4720 K t2848 0))) else (some false))
set_option maxRecDepth 100000 in
theorem confidantlaw16_RngSpreads.calls {K : Nat} {a4 : Int} {a5 : Int} {a6 : Int} {x2834 : Bool} {B w : World} {os : List Ass} {rs : List Ro} (H : confidantlaw16_RngSpreads.f K a4 a5 a6 = some x2834) (hS : St B w (os) (rs)) :
    Calls Try.prog 6 [.int .u64 a4, .int .u16 a5, .int .u8 a6].toArray w (fun en w' => ∃ v, en = .returned v ∧ v = .bool (x2834) ∧ St B w' (os) (rs)) := by
  unfold confidantlaw16_RngSpreads.f at H
  refine calls_of_EW (args := [.int .u64 a4, .int .u16 a5, .int .u8 a6]) (c := C6) 66 Try.func6 (by kernel_rfl) (by kernel_rfl) (by kernel_rfl) ?_
  refine EW.seq (x := C6.l) (y := C6.r) (by kernel_rfl) ?_
  refine EW.region (id := 0) (ops := C6.l.ops) (by kernel_rfl) ?_
  refine EL.quick 1 [0, 1, 2] [(0, .int .u64 a4), (1, .int .u16 a5), (2, .int .u8 a6)] (by kernel_rfl) ?_
  refine EL.done (by kernel_rfl) ?_
  refine EQ.code ?_
  refine EW.seq (x := C6.r.l) (y := C6.r.r) (by kernel_rfl) ?_
  refine EW.seq (x := C6.r.l.l) (y := C6.r.l.r) (by kernel_rfl) ?_
  refine EW.region (id := 1) (ops := C6.r.l.l.ops) (by kernel_rfl) ?_
  obtain ⟨t2842, hc2843, H⟩ := b1_out H
  refine EL.of (EO.callD 14 [] _ 14 (by kernel_rfl) (by kernel_rfl) (by kernel_rfl) (confidantlaw16_known.calls hc2843 hS) ?_)
  rintro v w ⟨rfl, hS⟩
  refine EL.quick 1 [0, 1, 2, 15] [(0, .int .u64 a4), (1, .int .u16 a5), (2, .int .u8 a6), (15, .bool (!(t2842)))] (by kernel_rfl) ?_
  refine EL.done (by kernel_rfl) ?_
  refine EQ.code ?_
  refine EW.condQ (b := !(t2842)) (o := (.tmp 15)) (x := C6.r.l.r.l) (y := C6.r.l.r.r) (t2842 = true) (false) (by kernel_rfl) (by kernel_rfl) (by constructor <;> intro h <;> simp [h]) (fun h2844 => ?_) (fun h2844 => ?_)
  · rw [if_pos h2844] at H
    refine EW.skip (by kernel_rfl) ?_
    refine EQ.code ?_
    refine EW.seq (x := C6.r.r.l) (y := C6.r.r.r) (by kernel_rfl) ?_
    refine EW.region (id := 3) (ops := C6.r.r.l.ops) (by kernel_rfl) ?_
    refine EL.quick 1 [0, 1, 2, 16] [(0, .int .u64 a4), (1, .int .u16 a5), (2, .int .u8 a6), (16, .int .u64 a4)] (by kernel_rfl) ?_
    obtain ⟨t2848, hc2850, H⟩ := b1_out H
    refine EL.of (EO.callD 15 [.int .u64 a4] _ 17 (by kernel_rfl) (by kernel_rfl) (by kernel_rfl) (rng_New.calls hc2850 hS) ?_)
    rintro v w ⟨g2849, rfl, hS⟩
    refine EL.quick 1 [0, 1, 2, 7] [(0, .int .u64 a4), (1, .int .u16 a5), (2, .int .u8 a6), (7, .pointer (some ⟨g2849, 0, none⟩))] (by kernel_rfl) ?_
    refine EL.done (by kernel_rfl) ?_
    refine EQ.code ?_
    refine EW.seq (x := C6.r.r.r.l) (y := C6.r.r.r.r) (by kernel_rfl) ?_
    refine EW.region (id := 4) (ops := C6.r.r.r.l.ops) (by kernel_rfl) ?_
    refine EL.quick 4 [0, 2, 7, 8] [(0, .int .u64 a4), (2, .int .u8 a6), (7, .pointer (some ⟨g2849, 0, none⟩)), (8, .int .i64 (IntKind.i64.wrap ((IntKind.i64.wrap a5) + 1)))] (by kernel_rfl) ?_
    refine EL.done (by kernel_rfl) ?_
    refine EQ.code ?_
    obtain ⟨j4720, hj4720, H⟩ := lt_out H
    refine EW.cut (x := C6.r.r.r.r.l) (y := C6.r.r.r.r.r) (fun a w => ∃ x4719 : Int, Sat 66 [(7, .pointer (some ⟨g2849, 0, none⟩))] a ∧ St B w (Ass.box 59 g2849 [.int .u64 x4719] :: os) (rs) ∧ j4720 x4719 = some x2834) (by kernel_rfl) ?_ (fun a w hI => ?_)
    · refine EW.seq (x := C6.r.r.r.r.l.l) (y := C6.r.r.r.r.l.r) (by kernel_rfl) ?_
      refine EW.region (id := 5) (ops := C6.r.r.r.r.l.l.ops) (by kernel_rfl) ?_
      refine EL.quick 1 [0, 2, 7, 8, 9] [(0, .int .u64 a4), (2, .int .u8 a6), (7, .pointer (some ⟨g2849, 0, none⟩)), (8, .int .i64 (IntKind.i64.wrap ((IntKind.i64.wrap a5) + 1))), (9, .int .i64 0)] (by kernel_rfl) ?_
      refine EL.done (by kernel_rfl) ?_
      refine EQ.code ?_
      refine EW.block (x := C6.r.r.r.r.l.r.l) (id := 0) (by kernel_rfl) ?_
      refine EW.loop (x := C6.r.r.r.r.l.r.l.l) (fun n a w => ∃ x4827 : Int, ∃ x4828 : Int, Sat 66 [(0, .int .u64 a4), (2, .int .u8 a6), (7, .pointer (some ⟨g2849, 0, none⟩)), (8, .int .i64 (IntKind.i64.wrap ((IntKind.i64.wrap a5) + 1))), (9, .int .i64 x4828)] a ∧ St B w (Ass.box 59 g2849 [.int .u64 x4827] :: os) (rs) ∧ confidantlaw16_RngSpreads.l0 K a6 a4 a5 j4720 n x4827 x4828 = some x2834) K (by kernel_rfl) ?_ (fun n a w hI => ?_)
      · refine EQ.keep [0, 2, 7, 8, 9] [(0, .int .u64 a4), (2, .int .u8 a6), (7, .pointer (some ⟨g2849, 0, none⟩)), (8, .int .i64 (IntKind.i64.wrap ((IntKind.i64.wrap a5) + 1))), (9, .int .i64 0)] (by kernel_rfl) ?_
        exact fun a ha => ⟨t2848, 0, ha, (hS.re [0] [] rfl (sub_self)), H⟩
      · obtain ⟨x4827, x4828, ha, hS, H⟩ := hI
        obtain _ | n := n
        · simp [confidantlaw16_RngSpreads.l0] at H
        rw [confidantlaw16_RngSpreads.l0.eq_2] at H
        refine EW.at ?_ a ha
        clear ha a
        refine EW.seq (x := C6.r.r.r.r.l.r.l.l.l) (y := C6.r.r.r.r.l.r.l.l.r) (by kernel_rfl) ?_
        refine EW.seq (x := C6.r.r.r.r.l.r.l.l.l.l) (y := C6.r.r.r.r.l.r.l.l.l.r) (by kernel_rfl) ?_
        refine EW.region (id := 6) (ops := C6.r.r.r.r.l.r.l.l.l.l.ops) (by kernel_rfl) ?_
        refine EL.quick 5 [0, 2, 7, 8, 9, 25] [(0, .int .u64 a4), (2, .int .u8 a6), (7, .pointer (some ⟨g2849, 0, none⟩)), (8, .int .i64 (IntKind.i64.wrap ((IntKind.i64.wrap a5) + 1))), (9, .int .i64 x4828), (25, .bool (decide (x4828 < (IntKind.i64.wrap (Int.tmod a6 50)))))] (by kernel_rfl) ?_
        refine EL.done (by kernel_rfl) ?_
        refine EQ.code ?_
        refine EW.condP (o := (.tmp 25)) (x := C6.r.r.r.r.l.r.l.l.l.r.l) (y := C6.r.r.r.r.l.r.l.l.l.r.r) (x4828 < (IntKind.i64.wrap (Int.tmod a6 50))) (by kernel_rfl) (by kernel_rfl) (fun h5245 => ?_) (fun h5245 => ?_)
        · rw [if_pos h5245] at H
          refine EW.skip (by kernel_rfl) ?_
          refine EQ.code ?_
          obtain ⟨j5519, hj5519, H⟩ := lt_out H
          refine EW.cut (x := C6.r.r.r.r.l.r.l.l.r.l) (y := C6.r.r.r.r.l.r.l.l.r.r) (fun a w => ∃ x5517 : Int, ∃ x5518 : Int, ∃ g5516 : Nat, Sat 66 [(0, .int .u64 a4), (2, .int .u8 a6), (7, .pointer (some ⟨g2849, 0, none⟩)), (8, .int .i64 (IntKind.i64.wrap ((IntKind.i64.wrap a5) + 1))), (9, .int .i64 x4828)] a ∧ St B w (Ass.box 59 g2849 [.int .u64 x5517] :: Ass.box 59 g5516 [.int .u64 x5518] :: os) (rs) ∧ j5519 x5517 x5518 = some x2834) (by kernel_rfl) ?_ (fun a w hI => ?_)
          · refine EW.block (x := C6.r.r.r.r.l.r.l.l.r.l.l) (id := 1) (by kernel_rfl) ?_
            refine EW.seq (x := C6.r.r.r.r.l.r.l.l.r.l.l.l) (y := C6.r.r.r.r.l.r.l.l.r.l.l.r) (by kernel_rfl) ?_
            refine EW.region (id := 8) (ops := C6.r.r.r.r.l.r.l.l.r.l.l.l.ops) (by kernel_rfl) ?_
            refine EL.quick 1 [0, 2, 7, 8, 9, 28] [(0, .int .u64 a4), (2, .int .u8 a6), (7, .pointer (some ⟨g2849, 0, none⟩)), (8, .int .i64 (IntKind.i64.wrap ((IntKind.i64.wrap a5) + 1))), (9, .int .i64 x4828), (28, .int .u64 a4)] (by kernel_rfl) ?_
            obtain ⟨t5523, hc5525, H⟩ := b1_out H
            refine EL.of (EO.callD 15 [.int .u64 a4] _ 29 (by kernel_rfl) (by kernel_rfl) (by kernel_rfl) (rng_New.calls hc5525 hS) ?_)
            rintro v w ⟨g5524, rfl, hS⟩
            refine EL.quick 1 [0, 2, 7, 8, 9, 10] [(0, .int .u64 a4), (2, .int .u8 a6), (7, .pointer (some ⟨g2849, 0, none⟩)), (8, .int .i64 (IntKind.i64.wrap ((IntKind.i64.wrap a5) + 1))), (9, .int .i64 x4828), (10, .pointer (some ⟨g5524, 0, none⟩))] (by kernel_rfl) ?_
            refine EL.done (by kernel_rfl) ?_
            refine EQ.code ?_
            obtain ⟨j5595, hj5595, H⟩ := lt_out H
            refine EW.cut (x := C6.r.r.r.r.l.r.l.l.r.l.l.r.l) (y := C6.r.r.r.r.l.r.l.l.r.l.l.r.r) (fun a w => ∃ x5594 : Int, Sat 66 [(0, .int .u64 a4), (2, .int .u8 a6), (7, .pointer (some ⟨g2849, 0, none⟩)), (8, .int .i64 (IntKind.i64.wrap ((IntKind.i64.wrap a5) + 1))), (9, .int .i64 x4828), (10, .pointer (some ⟨g5524, 0, none⟩))] a ∧ St B w (Ass.box 59 g5524 [.int .u64 x5594] :: Ass.box 59 g2849 [.int .u64 x4827] :: os) (rs) ∧ j5595 x5594 = some x2834) (by kernel_rfl) ?_ (fun a w hI => ?_)
            · refine EW.seq (x := C6.r.r.r.r.l.r.l.l.r.l.l.r.l.l) (y := C6.r.r.r.r.l.r.l.l.r.l.l.r.l.r) (by kernel_rfl) ?_
              refine EW.region (id := 9) (ops := C6.r.r.r.r.l.r.l.l.r.l.l.r.l.l.ops) (by kernel_rfl) ?_
              refine EL.quick 1 [0, 2, 7, 8, 9, 10, 11] [(0, .int .u64 a4), (2, .int .u8 a6), (7, .pointer (some ⟨g2849, 0, none⟩)), (8, .int .i64 (IntKind.i64.wrap ((IntKind.i64.wrap a5) + 1))), (9, .int .i64 x4828), (10, .pointer (some ⟨g5524, 0, none⟩)), (11, .int .i64 0)] (by kernel_rfl) ?_
              refine EL.done (by kernel_rfl) ?_
              refine EQ.code ?_
              refine EW.block (x := C6.r.r.r.r.l.r.l.l.r.l.l.r.l.r.l) (id := 2) (by kernel_rfl) ?_
              refine EW.loop (x := C6.r.r.r.r.l.r.l.l.r.l.l.r.l.r.l.l) (fun n a w => ∃ x5608 : Int, ∃ x5609 : Int, Sat 66 [(0, .int .u64 a4), (2, .int .u8 a6), (7, .pointer (some ⟨g2849, 0, none⟩)), (8, .int .i64 (IntKind.i64.wrap ((IntKind.i64.wrap a5) + 1))), (9, .int .i64 x4828), (10, .pointer (some ⟨g5524, 0, none⟩)), (11, .int .i64 x5609)] a ∧ St B w (Ass.box 59 g5524 [.int .u64 x5608] :: Ass.box 59 g2849 [.int .u64 x4827] :: os) (rs) ∧ confidantlaw16_RngSpreads.l1 K x4828 j5595 n x5608 x5609 = some x2834) K (by kernel_rfl) ?_ (fun n a w hI => ?_)
              · refine EQ.keep [0, 2, 7, 8, 9, 10, 11] [(0, .int .u64 a4), (2, .int .u8 a6), (7, .pointer (some ⟨g2849, 0, none⟩)), (8, .int .i64 (IntKind.i64.wrap ((IntKind.i64.wrap a5) + 1))), (9, .int .i64 x4828), (10, .pointer (some ⟨g5524, 0, none⟩)), (11, .int .i64 0)] (by kernel_rfl) ?_
                exact fun a ha => ⟨t5523, 0, ha, (hS.re [1, 1] [] rfl (sub_self)), H⟩
              · obtain ⟨x5608, x5609, ha, hS, H⟩ := hI
                obtain _ | n := n
                · simp [confidantlaw16_RngSpreads.l1] at H
                rw [confidantlaw16_RngSpreads.l1.eq_2] at H
                refine EW.at ?_ a ha
                clear ha a
                refine EW.seq (x := C6.r.r.r.r.l.r.l.l.r.l.l.r.l.r.l.l.l) (y := C6.r.r.r.r.l.r.l.l.r.l.l.r.l.r.l.l.r) (by kernel_rfl) ?_
                refine EW.seq (x := C6.r.r.r.r.l.r.l.l.r.l.l.r.l.r.l.l.l.l) (y := C6.r.r.r.r.l.r.l.l.r.l.l.r.l.r.l.l.l.r) (by kernel_rfl) ?_
                refine EW.region (id := 10) (ops := C6.r.r.r.r.l.r.l.l.r.l.l.r.l.r.l.l.l.l.ops) (by kernel_rfl) ?_
                refine EL.quick 3 [0, 2, 7, 8, 9, 10, 11, 32] [(0, .int .u64 a4), (2, .int .u8 a6), (7, .pointer (some ⟨g2849, 0, none⟩)), (8, .int .i64 (IntKind.i64.wrap ((IntKind.i64.wrap a5) + 1))), (9, .int .i64 x4828), (10, .pointer (some ⟨g5524, 0, none⟩)), (11, .int .i64 x5609), (32, .bool (decide (x5609 < x4828)))] (by kernel_rfl) ?_
                refine EL.done (by kernel_rfl) ?_
                refine EQ.code ?_
                refine EW.condP (o := (.tmp 32)) (x := C6.r.r.r.r.l.r.l.l.r.l.l.r.l.r.l.l.l.r.l) (y := C6.r.r.r.r.l.r.l.l.r.l.l.r.l.r.l.l.l.r.r) (x5609 < x4828) (by kernel_rfl) (by kernel_rfl) (fun h5623 => ?_) (fun h5623 => ?_)
                · rw [if_pos h5623] at H
                  refine EW.skip (by kernel_rfl) ?_
                  refine EQ.code ?_
                  refine EW.seq (x := C6.r.r.r.r.l.r.l.l.r.l.l.r.l.r.l.l.r.l) (y := C6.r.r.r.r.l.r.l.l.r.l.l.r.l.r.l.l.r.r) (by kernel_rfl) ?_
                  refine EW.block (x := C6.r.r.r.r.l.r.l.l.r.l.l.r.l.r.l.l.r.l.l) (id := 3) (by kernel_rfl) ?_
                  refine EW.region (id := 12) (ops := C6.r.r.r.r.l.r.l.l.r.l.l.r.l.r.l.l.r.l.l.ops) (by kernel_rfl) ?_
                  refine EL.quick 1 [0, 2, 7, 8, 9, 10, 11, 35] [(0, .int .u64 a4), (2, .int .u8 a6), (7, .pointer (some ⟨g2849, 0, none⟩)), (8, .int .i64 (IntKind.i64.wrap ((IntKind.i64.wrap a5) + 1))), (9, .int .i64 x4828), (10, .pointer (some ⟨g5524, 0, none⟩)), (11, .int .i64 x5609), (35, .pointer (some ⟨g5524, 0, none⟩))] (by kernel_rfl) ?_
                  obtain ⟨t5627, t5628, hc5629, H⟩ := b2_out H
                  refine EL.of (EO.callD 17 [.pointer (some ⟨g5524, 0, none⟩)] _ 36 (by kernel_rfl) (by kernel_rfl) (by kernel_rfl) (rng_Rng_Next.calls hc5629 hS) ?_)
                  rintro v w ⟨rfl, hS⟩
                  refine EL.done (by kernel_rfl) ?_
                  refine EQ.pop ?_
                  refine EQ.code ?_
                  refine EW.region (id := 11) (ops := C6.r.r.r.r.l.r.l.l.r.l.l.r.l.r.l.l.r.r.ops) (by kernel_rfl) ?_
                  refine EL.quick 3 [0, 2, 7, 8, 9, 10, 11] [(0, .int .u64 a4), (2, .int .u8 a6), (7, .pointer (some ⟨g2849, 0, none⟩)), (8, .int .i64 (IntKind.i64.wrap ((IntKind.i64.wrap a5) + 1))), (9, .int .i64 x4828), (10, .pointer (some ⟨g5524, 0, none⟩)), (11, .int .i64 (IntKind.i64.wrap (x5609 + 1)))] (by kernel_rfl) ?_
                  refine EL.done (by kernel_rfl) ?_
                  refine EQ.to ?_
                  refine EQ.keep [0, 2, 7, 8, 9, 10, 11] [(0, .int .u64 a4), (2, .int .u8 a6), (7, .pointer (some ⟨g2849, 0, none⟩)), (8, .int .i64 (IntKind.i64.wrap ((IntKind.i64.wrap a5) + 1))), (9, .int .i64 x4828), (10, .pointer (some ⟨g5524, 0, none⟩)), (11, .int .i64 (IntKind.i64.wrap (x5609 + 1)))] (by kernel_rfl) ?_
                  exact fun a ha => ⟨n, Nat.lt_succ_self n, t5627, IntKind.i64.wrap (x5609 + 1), ha, (hS.re [1, 1] [] rfl (sub_self)), H⟩
                · rw [if_neg h5623] at H
                  refine EW.exit (id := 2) (by kernel_rfl) ?_
                  refine EQ.exitCode ?_
                  refine EQ.exitTo ?_
                  refine EQ.exitHere ?_
                  refine EQ.to ?_
                  refine EQ.keep [0, 2, 7, 8, 9, 10] [(0, .int .u64 a4), (2, .int .u8 a6), (7, .pointer (some ⟨g2849, 0, none⟩)), (8, .int .i64 (IntKind.i64.wrap ((IntKind.i64.wrap a5) + 1))), (9, .int .i64 x4828), (10, .pointer (some ⟨g5524, 0, none⟩))] (by kernel_rfl) ?_
                  exact fun a ha => ⟨x5608, ha, (hS.re [1, 1] [] rfl (sub_self)), H⟩
            · obtain ⟨x5594, ha, hS, H⟩ := hI
              rw [hj5595] at H
              (try dsimp only at H)
              refine EW.at ?_ a ha
              clear ha a
              refine EW.seq (x := C6.r.r.r.r.l.r.l.l.r.l.l.r.r.l) (y := C6.r.r.r.r.l.r.l.l.r.l.l.r.r.r) (by kernel_rfl) ?_
              refine EW.region (id := 13) (ops := C6.r.r.r.r.l.r.l.l.r.l.l.r.r.l.ops) (by kernel_rfl) ?_
              refine EL.quick 1 [0, 2, 7, 8, 9, 37] [(0, .int .u64 a4), (2, .int .u8 a6), (7, .pointer (some ⟨g2849, 0, none⟩)), (8, .int .i64 (IntKind.i64.wrap ((IntKind.i64.wrap a5) + 1))), (9, .int .i64 x4828), (37, .pointer (some ⟨g5524, 0, none⟩))] (by kernel_rfl) ?_
              obtain ⟨t5635, t5636, hc5637, H⟩ := b2_out H
              refine EL.of (EO.callD 17 [.pointer (some ⟨g5524, 0, none⟩)] _ 38 (by kernel_rfl) (by kernel_rfl) (by kernel_rfl) (rng_Rng_Next.calls hc5637 hS) ?_)
              rintro v w ⟨rfl, hS⟩
              refine EL.quick 2 [0, 2, 7, 8, 9, 38, 40] [(0, .int .u64 a4), (2, .int .u8 a6), (7, .pointer (some ⟨g2849, 0, none⟩)), (8, .int .i64 (IntKind.i64.wrap ((IntKind.i64.wrap a5) + 1))), (9, .int .i64 x4828), (38, .int .u64 t5636), (40, .int .u64 (IntKind.u64.wrap (IntKind.i64.wrap ((IntKind.i64.wrap a5) + 1))))] (by kernel_rfl) ?_
              obtain ⟨h5638, H⟩ := ite_out H
              refine EL.of (EO.Y (YO.div .rem .u64 t5636 (IntKind.u64.wrap (IntKind.i64.wrap ((IntKind.i64.wrap a5) + 1))) (Int.tmod t5636 (IntKind.u64.wrap (IntKind.i64.wrap ((IntKind.i64.wrap a5) + 1)))) 41 (by kernel_rfl) (by kernel_rfl) (by kernel_rfl) h5638 (by first | exact .inl ⟨rfl, rfl⟩ | exact .inr ⟨rfl, rfl⟩)) ?_)
              refine EL.quick 1 [0, 2, 7, 8, 9, 12] [(0, .int .u64 a4), (2, .int .u8 a6), (7, .pointer (some ⟨g2849, 0, none⟩)), (8, .int .i64 (IntKind.i64.wrap ((IntKind.i64.wrap a5) + 1))), (9, .int .i64 x4828), (12, .int .u64 (Int.tmod t5636 (IntKind.u64.wrap (IntKind.i64.wrap ((IntKind.i64.wrap a5) + 1)))))] (by kernel_rfl) ?_
              obtain ⟨y5639, hy5639, H⟩ := lt_out H
              refine EL.keep [0, 2, 7, 8, 9, 12] [(0, .int .u64 a4), (2, .int .u8 a6), (7, .pointer (some ⟨g2849, 0, none⟩)), (8, .int .i64 (IntKind.i64.wrap ((IntKind.i64.wrap a5) + 1))), (9, .int .i64 x4828), (12, .int .u64 (Int.tmod t5636 (IntKind.u64.wrap (IntKind.i64.wrap ((IntKind.i64.wrap a5) + 1)))))] (by kernel_rfl) ?_
              refine EL.as' [(0, .int .u64 a4), (2, .int .u8 a6), (7, .pointer (some ⟨g2849, 0, none⟩)), (8, .int .i64 (IntKind.i64.wrap ((IntKind.i64.wrap a5) + 1))), (9, .int .i64 x4828), (12, .int .u64 y5639)] (by subst hy5639; rfl) ?_
              refine EL.done (by kernel_rfl) ?_
              refine EQ.code ?_
              refine EW.seq (x := C6.r.r.r.r.l.r.l.l.r.l.l.r.r.r.l) (y := C6.r.r.r.r.l.r.l.l.r.l.l.r.r.r.r) (by kernel_rfl) ?_
              refine EW.region (id := 14) (ops := C6.r.r.r.r.l.r.l.l.r.l.l.r.r.r.l.ops) (by kernel_rfl) ?_
              refine EL.quick 2 [0, 2, 7, 8, 9, 12, 42, 43] [(0, .int .u64 a4), (2, .int .u8 a6), (7, .pointer (some ⟨g2849, 0, none⟩)), (8, .int .i64 (IntKind.i64.wrap ((IntKind.i64.wrap a5) + 1))), (9, .int .i64 x4828), (12, .int .u64 y5639), (42, .pointer (some ⟨g2849, 0, none⟩)), (43, .int .i64 (IntKind.i64.wrap ((IntKind.i64.wrap a5) + 1)))] (by kernel_rfl) ?_
              have hS : St B _ (Ass.box 59 g2849 [.int .u64 x4827] :: Ass.box 59 g5524 [.int .u64 t5635] :: os) (rs) := hS.re [1] [] rfl sub_self
              obtain ⟨t5643, t5644, hc5645, H⟩ := b2_out H
              refine EL.of (EO.callD 18 [.pointer (some ⟨g2849, 0, none⟩), .int .i64 (IntKind.i64.wrap ((IntKind.i64.wrap a5) + 1))] _ 44 (by kernel_rfl) (by kernel_rfl) (by kernel_rfl) (rng_Rng_Below.calls hc5645 hS) ?_)
              rintro v w ⟨rfl, hS⟩
              refine EL.quick 1 [0, 2, 7, 8, 9, 12, 13] [(0, .int .u64 a4), (2, .int .u8 a6), (7, .pointer (some ⟨g2849, 0, none⟩)), (8, .int .i64 (IntKind.i64.wrap ((IntKind.i64.wrap a5) + 1))), (9, .int .i64 x4828), (12, .int .u64 y5639), (13, .int .i64 t5644)] (by kernel_rfl) ?_
              refine EL.done (by kernel_rfl) ?_
              refine EQ.code ?_
              obtain ⟨j5651, hj5651, H⟩ := lt_out H
              refine EW.cut (x := C6.r.r.r.r.l.r.l.l.r.l.l.r.r.r.r.l) (y := C6.r.r.r.r.l.r.l.l.r.l.l.r.r.r.r.r) (fun a w => ∃ x5650 : Bool, Sat 66 [(0, .int .u64 a4), (2, .int .u8 a6), (7, .pointer (some ⟨g2849, 0, none⟩)), (8, .int .i64 (IntKind.i64.wrap ((IntKind.i64.wrap a5) + 1))), (9, .int .i64 x4828), (57, .bool (x5650))] a ∧ St B w (Ass.box 59 g2849 [.int .u64 t5643] :: Ass.box 59 g5524 [.int .u64 t5635] :: os) (rs) ∧ j5651 x5650 = some x2834) (by kernel_rfl) ?_ (fun a w hI => ?_)
              · refine EW.region (id := 15) (ops := C6.r.r.r.r.l.r.l.l.r.l.l.r.r.r.r.l.ops) (by kernel_rfl) ?_
                refine EL.quick 3 [0, 2, 7, 8, 9, 12, 13, 47] [(0, .int .u64 a4), (2, .int .u8 a6), (7, .pointer (some ⟨g2849, 0, none⟩)), (8, .int .i64 (IntKind.i64.wrap ((IntKind.i64.wrap a5) + 1))), (9, .int .i64 x4828), (12, .int .u64 y5639), (13, .int .i64 t5644), (47, .bool (decide (t5644 < 0)))] (by kernel_rfl) ?_
                by_cases h5652 : t5644 < 0
                · rw [if_pos h5652] at H
                  refine EL.keep [0, 2, 7, 8, 9, 12, 13, 47] [(0, .int .u64 a4), (2, .int .u8 a6), (7, .pointer (some ⟨g2849, 0, none⟩)), (8, .int .i64 (IntKind.i64.wrap ((IntKind.i64.wrap a5) + 1))), (9, .int .i64 x4828), (12, .int .u64 y5639), (13, .int .i64 t5644), (47, .bool (decide (t5644 < 0)))] (by kernel_rfl) ?_
                  refine EL.as' [(0, .int .u64 a4), (2, .int .u8 a6), (7, .pointer (some ⟨g2849, 0, none⟩)), (8, .int .i64 (IntKind.i64.wrap ((IntKind.i64.wrap a5) + 1))), (9, .int .i64 x4828), (12, .int .u64 y5639), (13, .int .i64 t5644), (47, .bool (true))] (by simp only [dec_t h5652, Bool.not_true, Bool.not_false]) ?_
                  refine EL.quick 10 [0, 2, 7, 8, 9, 57] [(0, .int .u64 a4), (2, .int .u8 a6), (7, .pointer (some ⟨g2849, 0, none⟩)), (8, .int .i64 (IntKind.i64.wrap ((IntKind.i64.wrap a5) + 1))), (9, .int .i64 x4828), (57, .bool (true))] (by kernel_rfl) ?_
                  refine EL.done (by kernel_rfl) ?_
                  refine EQ.to ?_
                  refine EQ.keep [0, 2, 7, 8, 9, 57] [(0, .int .u64 a4), (2, .int .u8 a6), (7, .pointer (some ⟨g2849, 0, none⟩)), (8, .int .i64 (IntKind.i64.wrap ((IntKind.i64.wrap a5) + 1))), (9, .int .i64 x4828), (57, .bool (true))] (by kernel_rfl) ?_
                  exact fun a ha => ⟨true, ha, (hS.re [1, 1] [] rfl (sub_self)), H⟩
                · rw [if_neg h5652] at H
                  refine EL.keep [0, 2, 7, 8, 9, 12, 13, 47] [(0, .int .u64 a4), (2, .int .u8 a6), (7, .pointer (some ⟨g2849, 0, none⟩)), (8, .int .i64 (IntKind.i64.wrap ((IntKind.i64.wrap a5) + 1))), (9, .int .i64 x4828), (12, .int .u64 y5639), (13, .int .i64 t5644), (47, .bool (decide (t5644 < 0)))] (by kernel_rfl) ?_
                  refine EL.as' [(0, .int .u64 a4), (2, .int .u8 a6), (7, .pointer (some ⟨g2849, 0, none⟩)), (8, .int .i64 (IntKind.i64.wrap ((IntKind.i64.wrap a5) + 1))), (9, .int .i64 x4828), (12, .int .u64 y5639), (13, .int .i64 t5644), (47, .bool (false))] (by simp only [dec_f h5652, Bool.not_true, Bool.not_false]) ?_
                  refine EL.quick 5 [0, 2, 7, 8, 9, 12, 13, 48, 49, 50, 52] [(0, .int .u64 a4), (2, .int .u8 a6), (7, .pointer (some ⟨g2849, 0, none⟩)), (8, .int .i64 (IntKind.i64.wrap ((IntKind.i64.wrap a5) + 1))), (9, .int .i64 x4828), (12, .int .u64 y5639), (13, .int .i64 t5644), (48, .int .i64 t5644), (49, .int .i64 (IntKind.i64.wrap ((IntKind.i64.wrap a5) + 1))), (50, .bool (decide (t5644 ≥ (IntKind.i64.wrap ((IntKind.i64.wrap a5) + 1))))), (52, .bool (decide (t5644 ≥ (IntKind.i64.wrap ((IntKind.i64.wrap a5) + 1)))))] (by kernel_rfl) ?_
                  by_cases h5653 : t5644 ≥ (IntKind.i64.wrap ((IntKind.i64.wrap a5) + 1))
                  · rw [if_pos h5653] at H
                    refine EL.keep [0, 2, 7, 8, 9, 12, 13, 48, 49, 50, 52] [(0, .int .u64 a4), (2, .int .u8 a6), (7, .pointer (some ⟨g2849, 0, none⟩)), (8, .int .i64 (IntKind.i64.wrap ((IntKind.i64.wrap a5) + 1))), (9, .int .i64 x4828), (12, .int .u64 y5639), (13, .int .i64 t5644), (48, .int .i64 t5644), (49, .int .i64 (IntKind.i64.wrap ((IntKind.i64.wrap a5) + 1))), (50, .bool (decide (t5644 ≥ (IntKind.i64.wrap ((IntKind.i64.wrap a5) + 1))))), (52, .bool (decide (t5644 ≥ (IntKind.i64.wrap ((IntKind.i64.wrap a5) + 1)))))] (by kernel_rfl) ?_
                    refine EL.as' [(0, .int .u64 a4), (2, .int .u8 a6), (7, .pointer (some ⟨g2849, 0, none⟩)), (8, .int .i64 (IntKind.i64.wrap ((IntKind.i64.wrap a5) + 1))), (9, .int .i64 x4828), (12, .int .u64 y5639), (13, .int .i64 t5644), (48, .int .i64 t5644), (49, .int .i64 (IntKind.i64.wrap ((IntKind.i64.wrap a5) + 1))), (50, .bool (true)), (52, .bool (true))] (by simp only [dec_t h5653, Bool.not_true, Bool.not_false]) ?_
                    refine EL.quick 5 [0, 2, 7, 8, 9, 48, 49, 50, 57] [(0, .int .u64 a4), (2, .int .u8 a6), (7, .pointer (some ⟨g2849, 0, none⟩)), (8, .int .i64 (IntKind.i64.wrap ((IntKind.i64.wrap a5) + 1))), (9, .int .i64 x4828), (48, .int .i64 t5644), (49, .int .i64 (IntKind.i64.wrap ((IntKind.i64.wrap a5) + 1))), (50, .bool (true)), (57, .bool (true))] (by kernel_rfl) ?_
                    refine EL.done (by kernel_rfl) ?_
                    refine EQ.to ?_
                    refine EQ.keep [0, 2, 7, 8, 9, 57] [(0, .int .u64 a4), (2, .int .u8 a6), (7, .pointer (some ⟨g2849, 0, none⟩)), (8, .int .i64 (IntKind.i64.wrap ((IntKind.i64.wrap a5) + 1))), (9, .int .i64 x4828), (57, .bool (true))] (by kernel_rfl) ?_
                    exact fun a ha => ⟨true, ha, (hS.re [1, 1] [] rfl (sub_self)), H⟩
                  · rw [if_neg h5653] at H
                    refine EL.keep [0, 2, 7, 8, 9, 12, 13, 48, 49, 50, 52] [(0, .int .u64 a4), (2, .int .u8 a6), (7, .pointer (some ⟨g2849, 0, none⟩)), (8, .int .i64 (IntKind.i64.wrap ((IntKind.i64.wrap a5) + 1))), (9, .int .i64 x4828), (12, .int .u64 y5639), (13, .int .i64 t5644), (48, .int .i64 t5644), (49, .int .i64 (IntKind.i64.wrap ((IntKind.i64.wrap a5) + 1))), (50, .bool (decide (t5644 ≥ (IntKind.i64.wrap ((IntKind.i64.wrap a5) + 1))))), (52, .bool (decide (t5644 ≥ (IntKind.i64.wrap ((IntKind.i64.wrap a5) + 1)))))] (by kernel_rfl) ?_
                    refine EL.as' [(0, .int .u64 a4), (2, .int .u8 a6), (7, .pointer (some ⟨g2849, 0, none⟩)), (8, .int .i64 (IntKind.i64.wrap ((IntKind.i64.wrap a5) + 1))), (9, .int .i64 x4828), (12, .int .u64 y5639), (13, .int .i64 t5644), (48, .int .i64 t5644), (49, .int .i64 (IntKind.i64.wrap ((IntKind.i64.wrap a5) + 1))), (50, .bool (false)), (52, .bool (false))] (by simp only [dec_f h5653, Bool.not_true, Bool.not_false]) ?_
                    refine EL.quick 5 [0, 2, 7, 8, 9, 48, 49, 50, 53, 54, 55, 56, 57] [(0, .int .u64 a4), (2, .int .u8 a6), (7, .pointer (some ⟨g2849, 0, none⟩)), (8, .int .i64 (IntKind.i64.wrap ((IntKind.i64.wrap a5) + 1))), (9, .int .i64 x4828), (48, .int .i64 t5644), (49, .int .i64 (IntKind.i64.wrap ((IntKind.i64.wrap a5) + 1))), (50, .bool (false)), (53, .int .i64 t5644), (54, .int .u64 (IntKind.u64.wrap t5644)), (55, .int .u64 y5639), (56, .bool (!(decide ((IntKind.u64.wrap t5644) = y5639)))), (57, .bool (!(decide ((IntKind.u64.wrap t5644) = y5639))))] (by kernel_rfl) ?_
                    refine EL.done (by kernel_rfl) ?_
                    refine EQ.to ?_
                    refine EQ.keep [0, 2, 7, 8, 9, 57] [(0, .int .u64 a4), (2, .int .u8 a6), (7, .pointer (some ⟨g2849, 0, none⟩)), (8, .int .i64 (IntKind.i64.wrap ((IntKind.i64.wrap a5) + 1))), (9, .int .i64 x4828), (57, .bool (!(decide ((IntKind.u64.wrap t5644) = y5639))))] (by kernel_rfl) ?_
                    exact fun a ha => ⟨!(decide ((IntKind.u64.wrap t5644) = y5639)), ha, (hS.re [1, 1] [] rfl (sub_self)), H⟩
              · obtain ⟨x5650, ha, hS, H⟩ := hI
                rw [hj5651] at H
                (try dsimp only at H)
                refine EW.at ?_ a ha
                clear ha a
                refine EW.condP' (o := (.tmp 57)) (x := C6.r.r.r.r.l.r.l.l.r.l.l.r.r.r.r.r.l) (y := C6.r.r.r.r.l.r.l.l.r.l.l.r.r.r.r.r.r) (x5650) (by kernel_rfl) (by kernel_rfl) (fun h5654 => ?_) (fun h5654 => ?_)
                · rw [if_pos h5654] at H
                  refine EW.seq (x := C6.r.r.r.r.l.r.l.l.r.l.l.r.r.r.r.r.l.l) (y := C6.r.r.r.r.l.r.l.l.r.l.l.r.r.r.r.r.l.r) (by kernel_rfl) ?_
                  refine EW.region (id := 16) (ops := C6.r.r.r.r.l.r.l.l.r.l.l.r.r.r.r.r.l.l.ops) (by kernel_rfl) ?_
                  refine EL.quick 1 [6] [(6, .bool (false))] (by kernel_rfl) ?_
                  refine EL.done (by kernel_rfl) ?_
                  refine EQ.code ?_
                  refine EW.ret (by kernel_rfl) ?_
                  refine EQ.ret ?_
                  refine EQ.ret ?_
                  refine EQ.ret ?_
                  refine EQ.ret ?_
                  refine EQ.ret ?_
                  obtain rfl := Option.some.inj H
                  exact EQ.leave (.bool (false)) (by kernel_rfl) ⟨_, rfl, rfl, (hS.re [] [0, 0] rfl (sub_self))⟩
                · rw [if_neg h5654] at H
                  refine EW.skip (by kernel_rfl) ?_
                  refine EQ.pop ?_
                  refine EQ.to ?_
                  refine EQ.keep [0, 2, 7, 8, 9] [(0, .int .u64 a4), (2, .int .u8 a6), (7, .pointer (some ⟨g2849, 0, none⟩)), (8, .int .i64 (IntKind.i64.wrap ((IntKind.i64.wrap a5) + 1))), (9, .int .i64 x4828)] (by kernel_rfl) ?_
                  exact fun a ha => ⟨t5643, t5635, g5524, ha, (hS.re [1, 1] [] rfl (sub_self)), H⟩
          · obtain ⟨x5517, x5518, g5516, ha, hS, H⟩ := hI
            rw [hj5519] at H
            (try dsimp only at H)
            refine EW.at ?_ a ha
            clear ha a
            refine EW.region (id := 7) (ops := C6.r.r.r.r.l.r.l.l.r.r.ops) (by kernel_rfl) ?_
            refine EL.quick 3 [0, 2, 7, 8, 9] [(0, .int .u64 a4), (2, .int .u8 a6), (7, .pointer (some ⟨g2849, 0, none⟩)), (8, .int .i64 (IntKind.i64.wrap ((IntKind.i64.wrap a5) + 1))), (9, .int .i64 (IntKind.i64.wrap (x4828 + 1)))] (by kernel_rfl) ?_
            refine EL.done (by kernel_rfl) ?_
            refine EQ.to ?_
            refine EQ.keep [0, 2, 7, 8, 9] [(0, .int .u64 a4), (2, .int .u8 a6), (7, .pointer (some ⟨g2849, 0, none⟩)), (8, .int .i64 (IntKind.i64.wrap ((IntKind.i64.wrap a5) + 1))), (9, .int .i64 (IntKind.i64.wrap (x4828 + 1)))] (by kernel_rfl) ?_
            exact fun a ha => ⟨n, Nat.lt_succ_self n, x5517, IntKind.i64.wrap (x4828 + 1), ha, (hS.re [0] [1] rfl (sub_self)), H⟩
        · rw [if_neg h5245] at H
          refine EW.exit (id := 0) (by kernel_rfl) ?_
          refine EQ.exitCode ?_
          refine EQ.exitTo ?_
          refine EQ.exitHere ?_
          refine EQ.to ?_
          refine EQ.keep [7] [(7, .pointer (some ⟨g2849, 0, none⟩))] (by kernel_rfl) ?_
          exact fun a ha => ⟨x4827, ha, (hS.re [0] [] rfl (sub_self)), H⟩
    · obtain ⟨x4719, ha, hS, H⟩ := hI
      rw [hj4720] at H
      (try dsimp only at H)
      refine EW.at ?_ a ha
      clear ha a
      refine EW.seq (x := C6.r.r.r.r.r.l) (y := C6.r.r.r.r.r.r) (by kernel_rfl) ?_
      refine EW.region (id := 17) (ops := C6.r.r.r.r.r.l.ops) (by kernel_rfl) ?_
      refine EL.quick 1 [7, 58] [(7, .pointer (some ⟨g2849, 0, none⟩)), (58, .pointer (some ⟨g2849, 0, none⟩))] (by kernel_rfl) ?_
      obtain ⟨t5655, t5656, hc5657, H⟩ := b2_out H
      refine EL.of (EO.callD 18 [.pointer (some ⟨g2849, 0, none⟩), .int .i64 (-1)] _ 59 (by kernel_rfl) (by kernel_rfl) (by kernel_rfl) (rng_Rng_Below.calls hc5657 hS) ?_)
      rintro v w ⟨rfl, hS⟩
      refine EL.quick 2 [7, 61] [(7, .pointer (some ⟨g2849, 0, none⟩)), (61, .bool (decide (t5656 = 0)))] (by kernel_rfl) ?_
      by_cases h5658 : t5656 = 0
      · rw [if_pos h5658] at H
        refine EL.keep [7, 61] [(7, .pointer (some ⟨g2849, 0, none⟩)), (61, .bool (decide (t5656 = 0)))] (by kernel_rfl) ?_
        refine EL.as' [(7, .pointer (some ⟨g2849, 0, none⟩)), (61, .bool (true))] (by simp only [dec_t h5658, Bool.not_true, Bool.not_false]) ?_
        refine EL.quick 1 [61, 62] [(61, .bool (true)), (62, .pointer (some ⟨g2849, 0, none⟩))] (by kernel_rfl) ?_
        obtain ⟨t5659, t5660, hc5661, H⟩ := b2_out H
        refine EL.of (EO.callD 18 [.pointer (some ⟨g2849, 0, none⟩), .int .i64 1] _ 63 (by kernel_rfl) (by kernel_rfl) (by kernel_rfl) (rng_Rng_Below.calls hc5661 hS) ?_)
        rintro v w ⟨rfl, hS⟩
        refine EL.quick 3 [6] [(6, .bool (decide (t5660 = 0)))] (by kernel_rfl) ?_
        refine EL.done (by kernel_rfl) ?_
        refine EQ.code ?_
        refine EW.ret (by kernel_rfl) ?_
        obtain rfl := Option.some.inj H
        exact EQ.leave (.bool (decide (t5660 = 0))) (by kernel_rfl) ⟨_, rfl, rfl, (hS.re [] [0] rfl (sub_self))⟩
      · rw [if_neg h5658] at H
        refine EL.keep [7, 61] [(7, .pointer (some ⟨g2849, 0, none⟩)), (61, .bool (decide (t5656 = 0)))] (by kernel_rfl) ?_
        refine EL.as' [(7, .pointer (some ⟨g2849, 0, none⟩)), (61, .bool (false))] (by simp only [dec_f h5658, Bool.not_true, Bool.not_false]) ?_
        refine EL.quick 5 [6] [(6, .bool (false))] (by kernel_rfl) ?_
        refine EL.done (by kernel_rfl) ?_
        refine EQ.code ?_
        refine EW.ret (by kernel_rfl) ?_
        obtain rfl := Option.some.inj H
        exact EQ.leave (.bool (false)) (by kernel_rfl) ⟨_, rfl, rfl, (hS.re [] [0] rfl (sub_self))⟩
  · rw [if_neg h2844] at H
    refine EW.seq (x := C6.r.l.r.l.l) (y := C6.r.l.r.l.r) (by kernel_rfl) ?_
    refine EW.region (id := 2) (ops := C6.r.l.r.l.l.ops) (by kernel_rfl) ?_
    refine EL.quick 1 [6] [(6, .bool (false))] (by kernel_rfl) ?_
    refine EL.done (by kernel_rfl) ?_
    refine EQ.code ?_
    refine EW.ret (by kernel_rfl) ?_
    refine EQ.ret ?_
    obtain rfl := Option.some.inj H
    exact EQ.leave (.bool (false)) (by kernel_rfl) ⟨_, rfl, rfl, (hS.re [] [] rfl (sub_self))⟩

def confidantlaw16_RngSpreads.Pure : Prop := ∀ (a4 : Int) (a5 : Int) (a6 : Int), (Lit.int .u64 a4).wf = true → (Lit.int .u16 a5).wf = true → (Lit.int .u8 a6).wf = true → ∃ K, confidantlaw16_RngSpreads.f K a4 a5 a6 = some true

structure S35 where
  f0 : Int
  f1 : Int
deriving DecidableEq
def zS35 : S35 := ⟨0, 0⟩
def kS35 : Kd S35 := Kd.iso (Kd.prod (Kd.int .i64) (Kd.prod (Kd.int .i64) Kd.unit)) (fun s => (s.f0, s.f1, ()))
def encS35 (s : S35) : List Value := [.int .i64 s.f0, .int .i64 s.f1]
theorem encS35_of (w : World) (G : Bl) (vs : List Value) (x : S35) (h : kS35.rep w G vs x) : vs = encS35 x := by
  obtain ⟨_, _, rfl, h0, ⟨_, _, rfl, h1, hu⟩⟩ := h
  have h0 := encI_of _ _ _ _ h0
  have h1 := encI_of _ _ _ _ h1
  have hu : _ = [] := hu
  subst hu
  subst h0
  subst h1
  rfl

noncomputable def C7 : Code := bodyOf Try.f7

noncomputable def C20 : Code := bodyOf Try.f20

noncomputable def C21 : Code := bodyOf Try.f21

noncomputable def C22 : Code := bodyOf Try.f22

noncomputable def C23 : Code := bodyOf Try.f23

noncomputable def C24 : Code := bodyOf Try.f24

noncomputable def C25 : Code := bodyOf Try.f25

noncomputable def C26 : Code := bodyOf Try.f26

noncomputable def C27 : Code := bodyOf Try.f27

noncomputable def C28 : Code := bodyOf Try.f28

noncomputable def C43 : Code := bodyOf Try.f43

noncomputable def C44 : Code := bodyOf Try.f44

noncomputable def C45 : Code := bodyOf Try.f45

/-! ### confidant/ident.Of: function 21 -/
def ident_Of.f (K : Nat) (a11 : Int) (a12 : Int) : Option (Int × Bool) := lt (fun (x58 : Bool) => (if x58 = true then (some (0, false)) else (lt (IntKind.i32.wrap (IntKind.i64.wrap ((IntKind.i64.wrap (a11 * 65536)) + a12))) fun y64 => (some (y64, true))))) fun j59 => (if a11 < 0 then (j59 true) else (if a11 ≥ 16 then (j59 true) else (if a12 < 0 then (j59 true) else (j59 (decide (a12 ≥ 65536))))))
set_option maxRecDepth 100000 in
theorem ident_Of.calls {K : Nat} {a11 : Int} {a12 : Int} {x38 : Int} {x39 : Bool} {B w : World} {os : List Ass} {rs : List Ro} (H : ident_Of.f K a11 a12 = some (x38, x39)) (hS : St B w (os) (rs)) :
    Calls Try.prog 21 [.int .i64 a11, .int .i64 a12].toArray w (fun en w' => ∃ v, en = .returned v ∧ v = .tuple #[.int .i32 x38, .bool (x39)] ∧ St B w' (os) (rs)) := by
  unfold ident_Of.f at H
  refine calls_of_EW (args := [.int .i64 a11, .int .i64 a12]) (c := C21) 25 Try.func21 (by kernel_rfl) (by kernel_rfl) (by kernel_rfl) ?_
  refine EW.seq (x := C21.l) (y := C21.r) (by kernel_rfl) ?_
  refine EW.region (id := 0) (ops := C21.l.ops) (by kernel_rfl) ?_
  refine EL.quick 2 [0, 1] [(0, .int .i64 a11), (1, .int .i64 a12)] (by kernel_rfl) ?_
  refine EL.done (by kernel_rfl) ?_
  refine EQ.code ?_
  refine EW.seq (x := C21.r.l) (y := C21.r.r) (by kernel_rfl) ?_
  obtain ⟨j59, hj59, H⟩ := lt_out H
  refine EW.cut (x := C21.r.l.l) (y := C21.r.l.r) (fun a w => ∃ x58 : Bool, Sat 25 [(0, .int .i64 a11), (1, .int .i64 a12), (19, .bool (x58))] a ∧ St B w (os) (rs) ∧ j59 x58 = some (x38, x39)) (by kernel_rfl) ?_ (fun a w hI => ?_)
  · refine EW.region (id := 1) (ops := C21.r.l.l.ops) (by kernel_rfl) ?_
    refine EL.quick 3 [0, 1, 8] [(0, .int .i64 a11), (1, .int .i64 a12), (8, .bool (decide (a11 < 0)))] (by kernel_rfl) ?_
    by_cases h60 : a11 < 0
    · rw [if_pos h60] at H
      refine EL.keep [0, 1, 8] [(0, .int .i64 a11), (1, .int .i64 a12), (8, .bool (decide (a11 < 0)))] (by kernel_rfl) ?_
      refine EL.as' [(0, .int .i64 a11), (1, .int .i64 a12), (8, .bool (true))] (by simp only [dec_t h60, Bool.not_true, Bool.not_false]) ?_
      refine EL.quick 11 [0, 1, 19] [(0, .int .i64 a11), (1, .int .i64 a12), (19, .bool (true))] (by kernel_rfl) ?_
      refine EL.done (by kernel_rfl) ?_
      refine EQ.to ?_
      refine EQ.keep [0, 1, 19] [(0, .int .i64 a11), (1, .int .i64 a12), (19, .bool (true))] (by kernel_rfl) ?_
      exact fun a ha => ⟨true, ha, (hS.re [] [] rfl (sub_self)), H⟩
    · rw [if_neg h60] at H
      refine EL.keep [0, 1, 8] [(0, .int .i64 a11), (1, .int .i64 a12), (8, .bool (decide (a11 < 0)))] (by kernel_rfl) ?_
      refine EL.as' [(0, .int .i64 a11), (1, .int .i64 a12), (8, .bool (false))] (by simp only [dec_f h60, Bool.not_true, Bool.not_false]) ?_
      refine EL.quick 4 [0, 1, 12] [(0, .int .i64 a11), (1, .int .i64 a12), (12, .bool (decide (a11 ≥ 16)))] (by kernel_rfl) ?_
      by_cases h61 : a11 ≥ 16
      · rw [if_pos h61] at H
        refine EL.keep [0, 1, 12] [(0, .int .i64 a11), (1, .int .i64 a12), (12, .bool (decide (a11 ≥ 16)))] (by kernel_rfl) ?_
        refine EL.as' [(0, .int .i64 a11), (1, .int .i64 a12), (12, .bool (true))] (by simp only [dec_t h61, Bool.not_true, Bool.not_false]) ?_
        refine EL.quick 7 [0, 1, 19] [(0, .int .i64 a11), (1, .int .i64 a12), (19, .bool (true))] (by kernel_rfl) ?_
        refine EL.done (by kernel_rfl) ?_
        refine EQ.to ?_
        refine EQ.keep [0, 1, 19] [(0, .int .i64 a11), (1, .int .i64 a12), (19, .bool (true))] (by kernel_rfl) ?_
        exact fun a ha => ⟨true, ha, (hS.re [] [] rfl (sub_self)), H⟩
      · rw [if_neg h61] at H
        refine EL.keep [0, 1, 12] [(0, .int .i64 a11), (1, .int .i64 a12), (12, .bool (decide (a11 ≥ 16)))] (by kernel_rfl) ?_
        refine EL.as' [(0, .int .i64 a11), (1, .int .i64 a12), (12, .bool (false))] (by simp only [dec_f h61, Bool.not_true, Bool.not_false]) ?_
        refine EL.quick 4 [0, 1, 16] [(0, .int .i64 a11), (1, .int .i64 a12), (16, .bool (decide (a12 < 0)))] (by kernel_rfl) ?_
        by_cases h62 : a12 < 0
        · rw [if_pos h62] at H
          refine EL.keep [0, 1, 16] [(0, .int .i64 a11), (1, .int .i64 a12), (16, .bool (decide (a12 < 0)))] (by kernel_rfl) ?_
          refine EL.as' [(0, .int .i64 a11), (1, .int .i64 a12), (16, .bool (true))] (by simp only [dec_t h62, Bool.not_true, Bool.not_false]) ?_
          refine EL.quick 3 [0, 1, 19] [(0, .int .i64 a11), (1, .int .i64 a12), (19, .bool (true))] (by kernel_rfl) ?_
          refine EL.done (by kernel_rfl) ?_
          refine EQ.to ?_
          refine EQ.keep [0, 1, 19] [(0, .int .i64 a11), (1, .int .i64 a12), (19, .bool (true))] (by kernel_rfl) ?_
          exact fun a ha => ⟨true, ha, (hS.re [] [] rfl (sub_self)), H⟩
        · rw [if_neg h62] at H
          refine EL.keep [0, 1, 16] [(0, .int .i64 a11), (1, .int .i64 a12), (16, .bool (decide (a12 < 0)))] (by kernel_rfl) ?_
          refine EL.as' [(0, .int .i64 a11), (1, .int .i64 a12), (16, .bool (false))] (by simp only [dec_f h62, Bool.not_true, Bool.not_false]) ?_
          refine EL.quick 3 [0, 1, 19] [(0, .int .i64 a11), (1, .int .i64 a12), (19, .bool (decide (a12 ≥ 65536)))] (by kernel_rfl) ?_
          refine EL.done (by kernel_rfl) ?_
          refine EQ.to ?_
          refine EQ.keep [0, 1, 19] [(0, .int .i64 a11), (1, .int .i64 a12), (19, .bool (decide (a12 ≥ 65536)))] (by kernel_rfl) ?_
          exact fun a ha => ⟨decide (a12 ≥ 65536), ha, (hS.re [] [] rfl (sub_self)), H⟩
  · obtain ⟨x58, ha, hS, H⟩ := hI
    rw [hj59] at H
    (try dsimp only at H)
    refine EW.at ?_ a ha
    clear ha a
    refine EW.condP' (o := (.tmp 19)) (x := C21.r.l.r.l) (y := C21.r.l.r.r) (x58) (by kernel_rfl) (by kernel_rfl) (fun h63 => ?_) (fun h63 => ?_)
    · rw [if_pos h63] at H
      refine EW.seq (x := C21.r.l.r.l.l) (y := C21.r.l.r.l.r) (by kernel_rfl) ?_
      refine EW.region (id := 2) (ops := C21.r.l.r.l.l.ops) (by kernel_rfl) ?_
      refine EL.quick 2 [4, 5] [(4, .int .i32 0), (5, .bool (false))] (by kernel_rfl) ?_
      refine EL.done (by kernel_rfl) ?_
      refine EQ.code ?_
      refine EW.ret (by kernel_rfl) ?_
      refine EQ.ret ?_
      simp only [Option.some.injEq, Prod.mk.injEq] at H
      obtain ⟨rfl, rfl⟩ := H
      exact EQ.leave (.tuple #[.int .i32 0, .bool (false)]) (by kernel_rfl) ⟨_, rfl, rfl, (hS.re [] [] rfl (sub_self))⟩
    · rw [if_neg h63] at H
      refine EW.skip (by kernel_rfl) ?_
      refine EQ.code ?_
      refine EW.seq (x := C21.r.r.l) (y := C21.r.r.r) (by kernel_rfl) ?_
      refine EW.region (id := 3) (ops := C21.r.r.l.ops) (by kernel_rfl) ?_
      refine EL.quick 7 [4, 5] [(4, .int .i32 (IntKind.i32.wrap (IntKind.i64.wrap ((IntKind.i64.wrap (a11 * 65536)) + a12)))), (5, .bool (true))] (by kernel_rfl) ?_
      obtain ⟨y64, hy64, H⟩ := lt_out H
      refine EL.keep [4, 5] [(4, .int .i32 (IntKind.i32.wrap (IntKind.i64.wrap ((IntKind.i64.wrap (a11 * 65536)) + a12)))), (5, .bool (true))] (by kernel_rfl) ?_
      refine EL.as' [(4, .int .i32 y64), (5, .bool (true))] (by subst hy64; rfl) ?_
      refine EL.done (by kernel_rfl) ?_
      refine EQ.code ?_
      refine EW.ret (by kernel_rfl) ?_
      simp only [Option.some.injEq, Prod.mk.injEq] at H
      obtain ⟨rfl, rfl⟩ := H
      exact EQ.leave (.tuple #[.int .i32 y64, .bool (true)]) (by kernel_rfl) ⟨_, rfl, rfl, (hS.re [] [] rfl (sub_self))⟩

/-! ### confidant/ident.Label$1: function 44 -/
def ident_Label_1.f (K : Nat) (a83 : Int) : Option Int := some (IntKind.i64.wrap (Int.tdiv a83 65536))
set_option maxRecDepth 100000 in
theorem ident_Label_1.calls {K : Nat} {a83 : Int} {x84 : Int} {B w : World} {os : List Ass} {rs : List Ro} (H : ident_Label_1.f K a83 = some x84) (hS : St B w (os) (rs)) :
    Calls Try.prog 44 [.int .i64 a83].toArray w (fun en w' => ∃ v, en = .returned v ∧ v = .int .i64 x84 ∧ St B w' (os) (rs)) := by
  unfold ident_Label_1.f at H
  refine calls_of_EW (args := [.int .i64 a83]) (c := C44) 5 Try.func44 (by kernel_rfl) (by kernel_rfl) (by kernel_rfl) ?_
  refine EW.seq (x := C44.l) (y := C44.r) (by kernel_rfl) ?_
  refine EW.region (id := 0) (ops := C44.l.ops) (by kernel_rfl) ?_
  refine EL.quick 1 [0] [(0, .int .i64 a83)] (by kernel_rfl) ?_
  refine EL.done (by kernel_rfl) ?_
  refine EQ.code ?_
  refine EW.seq (x := C44.r.l) (y := C44.r.r) (by kernel_rfl) ?_
  refine EW.region (id := 1) (ops := C44.r.l.ops) (by kernel_rfl) ?_
  refine EL.quick 3 [2] [(2, .int .i64 (IntKind.i64.wrap (Int.tdiv a83 65536)))] (by kernel_rfl) ?_
  refine EL.done (by kernel_rfl) ?_
  refine EQ.code ?_
  refine EW.ret (by kernel_rfl) ?_
  obtain rfl := Option.some.inj H
  exact EQ.leave (.int .i64 (IntKind.i64.wrap (Int.tdiv a83 65536))) (by kernel_rfl) ⟨_, rfl, rfl, (hS.re [] [] rfl (sub_self))⟩

/-! ### confidant/ident.Label: function 23 -/
def ident_Label.f (K : Nat) (a80 : Int) : Option Int := lt (fun (x106 : Int) => (some x106)) fun j107 => (if a80 < 0 then (j107 (-1)) else (b1 (ident_Label_1.f K (IntKind.i64.wrap a80)) fun (t110 : Int) => (j107 t110)))
set_option maxRecDepth 100000 in
theorem ident_Label.calls {K : Nat} {a80 : Int} {x97 : Int} {B w : World} {os : List Ass} {rs : List Ro} (H : ident_Label.f K a80 = some x97) (hS : St B w (os) (rs)) :
    Calls Try.prog 23 [.int .i32 a80].toArray w (fun en w' => ∃ v, en = .returned v ∧ v = .int .i64 x97 ∧ St B w' (os) (rs)) := by
  unfold ident_Label.f at H
  refine calls_of_EW (args := [.int .i32 a80]) (c := C23) 5 Try.func23 (by kernel_rfl) (by kernel_rfl) (by kernel_rfl) ?_
  refine EW.seq (x := C23.l) (y := C23.r) (by kernel_rfl) ?_
  refine EW.region (id := 0) (ops := C23.l.ops) (by kernel_rfl) ?_
  refine EL.quick 1 [0] [(0, .int .i32 a80)] (by kernel_rfl) ?_
  refine EL.done (by kernel_rfl) ?_
  refine EQ.code ?_
  refine EW.seq (x := C23.r.l) (y := C23.r.r) (by kernel_rfl) ?_
  refine EW.region (id := 1) (ops := C23.r.l.ops) (by kernel_rfl) ?_
  refine EL.quick 1 [3] [(3, .int .i32 a80)] (by kernel_rfl) ?_
  obtain ⟨j107, hj107, H⟩ := lt_out H
  refine EL.of (EO.callD 43 [.int .i32 a80, .func (.func 44) #[] #[]] (fun v w => ∃ x106 : Int, v = .int .i64 x106 ∧ St B w (os) (rs) ∧ j107 x106 = some x97) 4 (by kernel_rfl) (by kernel_rfl) (by kernel_rfl) ?_ ?_)
  · refine calls_of_EW (args := [.int .i32 a80, .func (.func 44) #[] #[]]) (c := C43) 11 Try.func43 (by kernel_rfl) (by kernel_rfl) (by kernel_rfl) ?_
    refine EW.seq (x := C43.l) (y := C43.r) (by kernel_rfl) ?_
    refine EW.region (id := 0) (ops := C43.l.ops) (by kernel_rfl) ?_
    refine EL.quick 1 [0, 1] [(0, .int .i32 a80), (1, .func (.func 44) #[] #[])] (by kernel_rfl) ?_
    refine EL.done (by kernel_rfl) ?_
    refine EQ.code ?_
    refine EW.seq (x := C43.r.l) (y := C43.r.r) (by kernel_rfl) ?_
    refine EW.seq (x := C43.r.l.l) (y := C43.r.l.r) (by kernel_rfl) ?_
    refine EW.region (id := 1) (ops := C43.r.l.l.ops) (by kernel_rfl) ?_
    refine EL.quick 2 [0, 1, 6] [(0, .int .i32 a80), (1, .func (.func 44) #[] #[]), (6, .bool (decide (a80 < 0)))] (by kernel_rfl) ?_
    refine EL.done (by kernel_rfl) ?_
    refine EQ.code ?_
    refine EW.condP (o := (.tmp 6)) (x := C43.r.l.r.l) (y := C43.r.l.r.r) (a80 < 0) (by kernel_rfl) (by kernel_rfl) (fun h109 => ?_) (fun h109 => ?_)
    · rw [if_pos h109] at H
      refine EW.seq (x := C43.r.l.r.l.l) (y := C43.r.l.r.l.r) (by kernel_rfl) ?_
      refine EW.region (id := 2) (ops := C43.r.l.r.l.l.ops) (by kernel_rfl) ?_
      refine EL.quick 1 [4] [(4, .int .i64 (-1))] (by kernel_rfl) ?_
      refine EL.done (by kernel_rfl) ?_
      refine EQ.code ?_
      refine EW.ret (by kernel_rfl) ?_
      refine EQ.ret ?_
      exact EQ.leave (.int .i64 (-1)) (by kernel_rfl) ⟨_, rfl, (-1), rfl, (hS.re [] [] rfl (sub_self)), H⟩
    · rw [if_neg h109] at H
      refine EW.skip (by kernel_rfl) ?_
      refine EQ.code ?_
      refine EW.seq (x := C43.r.r.l) (y := C43.r.r.r) (by kernel_rfl) ?_
      refine EW.region (id := 3) (ops := C43.r.r.l.ops) (by kernel_rfl) ?_
      refine EL.quick 3 [7, 9] [(7, .func (.func 44) #[] #[]), (9, .int .i64 (IntKind.i64.wrap a80))] (by kernel_rfl) ?_
      obtain ⟨t110, hc111, H⟩ := b1_out H
      refine EL.of (EO.callD 44 [.int .i64 (IntKind.i64.wrap a80)] _ 10 (by kernel_rfl) (by kernel_rfl) (by kernel_rfl) (ident_Label_1.calls hc111 hS) ?_)
      rintro v w ⟨rfl, hS⟩
      refine EL.quick 1 [4] [(4, .int .i64 t110)] (by kernel_rfl) ?_
      refine EL.done (by kernel_rfl) ?_
      refine EQ.code ?_
      refine EW.ret (by kernel_rfl) ?_
      exact EQ.leave (.int .i64 t110) (by kernel_rfl) ⟨_, rfl, t110, rfl, (hS.re [] [] rfl (sub_self)), H⟩
  · rintro v w ⟨x106, rfl, hS, H⟩
    rw [hj107] at H
    (try dsimp only at H)
    refine EL.quick 1 [2] [(2, .int .i64 x106)] (by kernel_rfl) ?_
    refine EL.done (by kernel_rfl) ?_
    refine EQ.code ?_
    refine EW.ret (by kernel_rfl) ?_
    obtain rfl := Option.some.inj H
    exact EQ.leave (.int .i64 x106) (by kernel_rfl) ⟨_, rfl, rfl, (hS.re [] [] rfl (sub_self))⟩

/-! ### confidant/ident.Number$1: function 45 -/
def ident_Number_1.f (K : Nat) (a118 : Int) : Option Int := some (Int.tmod a118 65536)
set_option maxRecDepth 100000 in
theorem ident_Number_1.calls {K : Nat} {a118 : Int} {x119 : Int} {B w : World} {os : List Ass} {rs : List Ro} (H : ident_Number_1.f K a118 = some x119) (hS : St B w (os) (rs)) :
    Calls Try.prog 45 [.int .i64 a118].toArray w (fun en w' => ∃ v, en = .returned v ∧ v = .int .i64 x119 ∧ St B w' (os) (rs)) := by
  unfold ident_Number_1.f at H
  refine calls_of_EW (args := [.int .i64 a118]) (c := C45) 5 Try.func45 (by kernel_rfl) (by kernel_rfl) (by kernel_rfl) ?_
  refine EW.seq (x := C45.l) (y := C45.r) (by kernel_rfl) ?_
  refine EW.region (id := 0) (ops := C45.l.ops) (by kernel_rfl) ?_
  refine EL.quick 1 [0] [(0, .int .i64 a118)] (by kernel_rfl) ?_
  refine EL.done (by kernel_rfl) ?_
  refine EQ.code ?_
  refine EW.seq (x := C45.r.l) (y := C45.r.r) (by kernel_rfl) ?_
  refine EW.region (id := 1) (ops := C45.r.l.ops) (by kernel_rfl) ?_
  refine EL.quick 3 [2] [(2, .int .i64 (Int.tmod a118 65536))] (by kernel_rfl) ?_
  refine EL.done (by kernel_rfl) ?_
  refine EQ.code ?_
  refine EW.ret (by kernel_rfl) ?_
  obtain rfl := Option.some.inj H
  exact EQ.leave (.int .i64 (Int.tmod a118 65536)) (by kernel_rfl) ⟨_, rfl, rfl, (hS.re [] [] rfl (sub_self))⟩

/-! ### confidant/ident.Number: function 24 -/
def ident_Number.f (K : Nat) (a115 : Int) : Option Int := lt (fun (x141 : Int) => (some x141)) fun j142 => (if a115 < 0 then (j142 (-1)) else (b1 (ident_Number_1.f K (IntKind.i64.wrap a115)) fun (t145 : Int) => (j142 t145)))
set_option maxRecDepth 100000 in
theorem ident_Number.calls {K : Nat} {a115 : Int} {x132 : Int} {B w : World} {os : List Ass} {rs : List Ro} (H : ident_Number.f K a115 = some x132) (hS : St B w (os) (rs)) :
    Calls Try.prog 24 [.int .i32 a115].toArray w (fun en w' => ∃ v, en = .returned v ∧ v = .int .i64 x132 ∧ St B w' (os) (rs)) := by
  unfold ident_Number.f at H
  refine calls_of_EW (args := [.int .i32 a115]) (c := C24) 5 Try.func24 (by kernel_rfl) (by kernel_rfl) (by kernel_rfl) ?_
  refine EW.seq (x := C24.l) (y := C24.r) (by kernel_rfl) ?_
  refine EW.region (id := 0) (ops := C24.l.ops) (by kernel_rfl) ?_
  refine EL.quick 1 [0] [(0, .int .i32 a115)] (by kernel_rfl) ?_
  refine EL.done (by kernel_rfl) ?_
  refine EQ.code ?_
  refine EW.seq (x := C24.r.l) (y := C24.r.r) (by kernel_rfl) ?_
  refine EW.region (id := 1) (ops := C24.r.l.ops) (by kernel_rfl) ?_
  refine EL.quick 1 [3] [(3, .int .i32 a115)] (by kernel_rfl) ?_
  obtain ⟨j142, hj142, H⟩ := lt_out H
  refine EL.of (EO.callD 43 [.int .i32 a115, .func (.func 45) #[] #[]] (fun v w => ∃ x141 : Int, v = .int .i64 x141 ∧ St B w (os) (rs) ∧ j142 x141 = some x132) 4 (by kernel_rfl) (by kernel_rfl) (by kernel_rfl) ?_ ?_)
  · refine calls_of_EW (args := [.int .i32 a115, .func (.func 45) #[] #[]]) (c := C43) 11 Try.func43 (by kernel_rfl) (by kernel_rfl) (by kernel_rfl) ?_
    refine EW.seq (x := C43.l) (y := C43.r) (by kernel_rfl) ?_
    refine EW.region (id := 0) (ops := C43.l.ops) (by kernel_rfl) ?_
    refine EL.quick 1 [0, 1] [(0, .int .i32 a115), (1, .func (.func 45) #[] #[])] (by kernel_rfl) ?_
    refine EL.done (by kernel_rfl) ?_
    refine EQ.code ?_
    refine EW.seq (x := C43.r.l) (y := C43.r.r) (by kernel_rfl) ?_
    refine EW.seq (x := C43.r.l.l) (y := C43.r.l.r) (by kernel_rfl) ?_
    refine EW.region (id := 1) (ops := C43.r.l.l.ops) (by kernel_rfl) ?_
    refine EL.quick 2 [0, 1, 6] [(0, .int .i32 a115), (1, .func (.func 45) #[] #[]), (6, .bool (decide (a115 < 0)))] (by kernel_rfl) ?_
    refine EL.done (by kernel_rfl) ?_
    refine EQ.code ?_
    refine EW.condP (o := (.tmp 6)) (x := C43.r.l.r.l) (y := C43.r.l.r.r) (a115 < 0) (by kernel_rfl) (by kernel_rfl) (fun h144 => ?_) (fun h144 => ?_)
    · rw [if_pos h144] at H
      refine EW.seq (x := C43.r.l.r.l.l) (y := C43.r.l.r.l.r) (by kernel_rfl) ?_
      refine EW.region (id := 2) (ops := C43.r.l.r.l.l.ops) (by kernel_rfl) ?_
      refine EL.quick 1 [4] [(4, .int .i64 (-1))] (by kernel_rfl) ?_
      refine EL.done (by kernel_rfl) ?_
      refine EQ.code ?_
      refine EW.ret (by kernel_rfl) ?_
      refine EQ.ret ?_
      exact EQ.leave (.int .i64 (-1)) (by kernel_rfl) ⟨_, rfl, (-1), rfl, (hS.re [] [] rfl (sub_self)), H⟩
    · rw [if_neg h144] at H
      refine EW.skip (by kernel_rfl) ?_
      refine EQ.code ?_
      refine EW.seq (x := C43.r.r.l) (y := C43.r.r.r) (by kernel_rfl) ?_
      refine EW.region (id := 3) (ops := C43.r.r.l.ops) (by kernel_rfl) ?_
      refine EL.quick 3 [7, 9] [(7, .func (.func 45) #[] #[]), (9, .int .i64 (IntKind.i64.wrap a115))] (by kernel_rfl) ?_
      obtain ⟨t145, hc146, H⟩ := b1_out H
      refine EL.of (EO.callD 45 [.int .i64 (IntKind.i64.wrap a115)] _ 10 (by kernel_rfl) (by kernel_rfl) (by kernel_rfl) (ident_Number_1.calls hc146 hS) ?_)
      rintro v w ⟨rfl, hS⟩
      refine EL.quick 1 [4] [(4, .int .i64 t145)] (by kernel_rfl) ?_
      refine EL.done (by kernel_rfl) ?_
      refine EQ.code ?_
      refine EW.ret (by kernel_rfl) ?_
      exact EQ.leave (.int .i64 t145) (by kernel_rfl) ⟨_, rfl, t145, rfl, (hS.re [] [] rfl (sub_self)), H⟩
  · rintro v w ⟨x141, rfl, hS, H⟩
    rw [hj142] at H
    (try dsimp only at H)
    refine EL.quick 1 [2] [(2, .int .i64 x141)] (by kernel_rfl) ?_
    refine EL.done (by kernel_rfl) ?_
    refine EQ.code ?_
    refine EW.ret (by kernel_rfl) ?_
    obtain rfl := Option.some.inj H
    exact EQ.leave (.int .i64 x141) (by kernel_rfl) ⟨_, rfl, rfl, (hS.re [] [] rfl (sub_self))⟩

/-! ### confidant/ident.Valid: function 27 -/
def ident_Valid.f (K : Nat) (a150 : Int) (a151 : Int) : Option Bool := if a150 ≥ 0 then (b1 (ident_Label.f K a150) fun (t157 : Int) => (some (decide (t157 < (mn a151 16))))) else (some false)
set_option maxRecDepth 100000 in
theorem ident_Valid.calls {K : Nat} {a150 : Int} {a151 : Int} {x155 : Bool} {B w : World} {os : List Ass} {rs : List Ro} (H : ident_Valid.f K a150 a151 = some x155) (hS : St B w (os) (rs)) :
    Calls Try.prog 27 [.int .i32 a150, .int .i64 a151].toArray w (fun en w' => ∃ v, en = .returned v ∧ v = .bool (x155) ∧ St B w' (os) (rs)) := by
  unfold ident_Valid.f at H
  refine calls_of_EW (args := [.int .i32 a150, .int .i64 a151]) (c := C27) 14 Try.func27 (by kernel_rfl) (by kernel_rfl) (by kernel_rfl) ?_
  refine EW.seq (x := C27.l) (y := C27.r) (by kernel_rfl) ?_
  refine EW.region (id := 0) (ops := C27.l.ops) (by kernel_rfl) ?_
  refine EL.quick 1 [0, 1] [(0, .int .i32 a150), (1, .int .i64 a151)] (by kernel_rfl) ?_
  refine EL.done (by kernel_rfl) ?_
  refine EQ.code ?_
  refine EW.seq (x := C27.r.l) (y := C27.r.r) (by kernel_rfl) ?_
  refine EW.region (id := 1) (ops := C27.r.l.ops) (by kernel_rfl) ?_
  refine EL.quick 3 [0, 1, 7] [(0, .int .i32 a150), (1, .int .i64 a151), (7, .bool (decide (a150 ≥ 0)))] (by kernel_rfl) ?_
  by_cases h156 : a150 ≥ 0
  · rw [if_pos h156] at H
    refine EL.keep [0, 1, 7] [(0, .int .i32 a150), (1, .int .i64 a151), (7, .bool (decide (a150 ≥ 0)))] (by kernel_rfl) ?_
    refine EL.as' [(0, .int .i32 a150), (1, .int .i64 a151), (7, .bool (true))] (by simp only [dec_t h156, Bool.not_true, Bool.not_false]) ?_
    refine EL.quick 1 [1, 7, 8] [(1, .int .i64 a151), (7, .bool (true)), (8, .int .i32 a150)] (by kernel_rfl) ?_
    obtain ⟨t157, hc158, H⟩ := b1_out H
    refine EL.of (EO.callD 23 [.int .i32 a150] _ 9 (by kernel_rfl) (by kernel_rfl) (by kernel_rfl) (ident_Label.calls hc158 hS) ?_)
    rintro v w ⟨rfl, hS⟩
    refine EL.quick 5 [4] [(4, .bool (decide (t157 < (mn a151 16))))] (by kernel_rfl) ?_
    refine EL.done (by kernel_rfl) ?_
    refine EQ.code ?_
    refine EW.ret (by kernel_rfl) ?_
    obtain rfl := Option.some.inj H
    exact EQ.leave (.bool (decide (t157 < (mn a151 16)))) (by kernel_rfl) ⟨_, rfl, rfl, (hS.re [] [] rfl (sub_self))⟩
  · rw [if_neg h156] at H
    refine EL.keep [0, 1, 7] [(0, .int .i32 a150), (1, .int .i64 a151), (7, .bool (decide (a150 ≥ 0)))] (by kernel_rfl) ?_
    refine EL.as' [(0, .int .i32 a150), (1, .int .i64 a151), (7, .bool (false))] (by simp only [dec_f h156, Bool.not_true, Bool.not_false]) ?_
    refine EL.quick 7 [4] [(4, .bool (false))] (by kernel_rfl) ?_
    refine EL.done (by kernel_rfl) ?_
    refine EQ.code ?_
    refine EW.ret (by kernel_rfl) ?_
    obtain rfl := Option.some.inj H
    exact EQ.leave (.bool (false)) (by kernel_rfl) ⟨_, rfl, rfl, (hS.re [] [] rfl (sub_self))⟩

/-! ### confidant/confidantlaw11.known: function 20 -/
def confidantlaw11_known.f (K : Nat)  : Option Bool := b2 (ident_Of.f K 1 2) fun (t171 : Int) (t172 : Bool) => (b2 (ident_Of.f K 16 0) fun (t177 : Int) (t178 : Bool) => (if t172 = true then (if t171 = 65538 then (if t178 = true then (some false) else (b1 (ident_Label.f K t171) fun (t183 : Int) => (if t183 = 1 then (b1 (ident_Number.f K t171) fun (t186 : Int) => (if t186 = 2 then (b1 (ident_Valid.f K t171 2) fun (t189 : Bool) => (if t189 = true then (b1 (ident_Valid.f K t171 1) fun (t192 : Bool) => (if t192 = true then (some false) else (b1 (ident_Label.f K (-1)) fun (t195 : Int) => (some (decide (t195 = (-1))))))) else (some false))) else (some false))) else (some false)))) else (some false)) else (some false)))
set_option maxRecDepth 100000 in
theorem confidantlaw11_known.calls {K : Nat} {x167 : Bool} {B w : World} {os : List Ass} {rs : List Ro} (H : confidantlaw11_known.f K = some x167) (hS : St B w (os) (rs)) :
    Calls Try.prog 20 [].toArray w (fun en w' => ∃ v, en = .returned v ∧ v = .bool (x167) ∧ St B w' (os) (rs)) := by
  unfold confidantlaw11_known.f at H
  refine calls_of_EW (args := []) (c := C20) 45 Try.func20 (by kernel_rfl) (by kernel_rfl) (by kernel_rfl) ?_
  refine EW.seq (x := C20.l) (y := C20.r) (by kernel_rfl) ?_
  refine EW.region (id := 0) (ops := C20.l.ops) (by kernel_rfl) ?_
  refine EL.quick 1 [] [] (by kernel_rfl) ?_
  refine EL.done (by kernel_rfl) ?_
  refine EQ.code ?_
  refine EW.seq (x := C20.r.l) (y := C20.r.r) (by kernel_rfl) ?_
  refine EW.region (id := 1) (ops := C20.r.l.ops) (by kernel_rfl) ?_
  obtain ⟨t171, t172, hc173, H⟩ := b2_out H
  refine EL.of (EO.callD 21 [.int .i64 1, .int .i64 2] _ 6 (by kernel_rfl) (by kernel_rfl) (by kernel_rfl) (ident_Of.calls hc173 hS) ?_)
  rintro v w ⟨rfl, hS⟩
  refine EL.quick 5 [1, 2] [(1, .int .i32 t171), (2, .bool (t172))] (by kernel_rfl) ?_
  refine EL.done (by kernel_rfl) ?_
  refine EQ.code ?_
  refine EW.seq (x := C20.r.r.l) (y := C20.r.r.r) (by kernel_rfl) ?_
  refine EW.region (id := 2) (ops := C20.r.r.l.ops) (by kernel_rfl) ?_
  obtain ⟨t177, t178, hc179, H⟩ := b2_out H
  refine EL.of (EO.callD 21 [.int .i64 16, .int .i64 0] _ 10 (by kernel_rfl) (by kernel_rfl) (by kernel_rfl) (ident_Of.calls hc179 hS) ?_)
  rintro v w ⟨rfl, hS⟩
  refine EL.quick 5 [1, 2, 4] [(1, .int .i32 t171), (2, .bool (t172)), (4, .bool (t178))] (by kernel_rfl) ?_
  refine EL.done (by kernel_rfl) ?_
  refine EQ.code ?_
  refine EW.seq (x := C20.r.r.r.l) (y := C20.r.r.r.r) (by kernel_rfl) ?_
  refine EW.region (id := 3) (ops := C20.r.r.r.l.ops) (by kernel_rfl) ?_
  refine EL.quick 2 [1, 4, 14] [(1, .int .i32 t171), (4, .bool (t178)), (14, .bool (t172))] (by kernel_rfl) ?_
  by_cases h180 : t172 = true
  · rw [if_pos h180] at H
    refine EL.keep [1, 4, 14] [(1, .int .i32 t171), (4, .bool (t178)), (14, .bool (t172))] (by kernel_rfl) ?_
    refine EL.as' [(1, .int .i32 t171), (4, .bool (t178)), (14, .bool (true))] (by simp only [h180, Bool.not_true, Bool.not_false]) ?_
    refine EL.quick 4 [1, 4, 18] [(1, .int .i32 t171), (4, .bool (t178)), (18, .bool (decide (t171 = 65538)))] (by kernel_rfl) ?_
    by_cases h181 : t171 = 65538
    · rw [if_pos h181] at H
      refine EL.keep [1, 4, 18] [(1, .int .i32 t171), (4, .bool (t178)), (18, .bool (decide (t171 = 65538)))] (by kernel_rfl) ?_
      refine EL.as' [(1, .int .i32 t171), (4, .bool (t178)), (18, .bool (true))] (by simp only [dec_t h181, Bool.not_true, Bool.not_false]) ?_
      refine EL.quick 4 [1, 22] [(1, .int .i32 t171), (22, .bool (!(t178)))] (by kernel_rfl) ?_
      by_cases h182 : t178 = true
      · rw [if_pos h182] at H
        refine EL.keep [1, 22] [(1, .int .i32 t171), (22, .bool (!(t178)))] (by kernel_rfl) ?_
        refine EL.as' [(1, .int .i32 t171), (22, .bool (false))] (by simp only [h182, Bool.not_true, Bool.not_false]) ?_
        refine EL.quick 23 [0] [(0, .bool (false))] (by kernel_rfl) ?_
        refine EL.done (by kernel_rfl) ?_
        refine EQ.code ?_
        refine EW.ret (by kernel_rfl) ?_
        obtain rfl := Option.some.inj H
        exact EQ.leave (.bool (false)) (by kernel_rfl) ⟨_, rfl, rfl, (hS.re [] [] rfl (sub_self))⟩
      · rw [if_neg h182] at H
        refine EL.keep [1, 22] [(1, .int .i32 t171), (22, .bool (!(t178)))] (by kernel_rfl) ?_
        refine EL.as' [(1, .int .i32 t171), (22, .bool (true))] (by simp only [(Bool.eq_false_iff.2 h182), Bool.not_true, Bool.not_false]) ?_
        refine EL.quick 1 [1, 22, 23] [(1, .int .i32 t171), (22, .bool (true)), (23, .int .i32 t171)] (by kernel_rfl) ?_
        obtain ⟨t183, hc184, H⟩ := b1_out H
        refine EL.of (EO.callD 23 [.int .i32 t171] _ 24 (by kernel_rfl) (by kernel_rfl) (by kernel_rfl) (ident_Label.calls hc184 hS) ?_)
        rintro v w ⟨rfl, hS⟩
        refine EL.quick 3 [1, 27] [(1, .int .i32 t171), (27, .bool (decide (t183 = 1)))] (by kernel_rfl) ?_
        by_cases h185 : t183 = 1
        · rw [if_pos h185] at H
          refine EL.keep [1, 27] [(1, .int .i32 t171), (27, .bool (decide (t183 = 1)))] (by kernel_rfl) ?_
          refine EL.as' [(1, .int .i32 t171), (27, .bool (true))] (by simp only [dec_t h185, Bool.not_true, Bool.not_false]) ?_
          refine EL.quick 1 [1, 27, 28] [(1, .int .i32 t171), (27, .bool (true)), (28, .int .i32 t171)] (by kernel_rfl) ?_
          obtain ⟨t186, hc187, H⟩ := b1_out H
          refine EL.of (EO.callD 24 [.int .i32 t171] _ 29 (by kernel_rfl) (by kernel_rfl) (by kernel_rfl) (ident_Number.calls hc187 hS) ?_)
          rintro v w ⟨rfl, hS⟩
          refine EL.quick 3 [1, 32] [(1, .int .i32 t171), (32, .bool (decide (t186 = 2)))] (by kernel_rfl) ?_
          by_cases h188 : t186 = 2
          · rw [if_pos h188] at H
            refine EL.keep [1, 32] [(1, .int .i32 t171), (32, .bool (decide (t186 = 2)))] (by kernel_rfl) ?_
            refine EL.as' [(1, .int .i32 t171), (32, .bool (true))] (by simp only [dec_t h188, Bool.not_true, Bool.not_false]) ?_
            refine EL.quick 1 [1, 32, 33] [(1, .int .i32 t171), (32, .bool (true)), (33, .int .i32 t171)] (by kernel_rfl) ?_
            obtain ⟨t189, hc190, H⟩ := b1_out H
            refine EL.of (EO.callD 27 [.int .i32 t171, .int .i64 2] _ 34 (by kernel_rfl) (by kernel_rfl) (by kernel_rfl) (ident_Valid.calls hc190 hS) ?_)
            rintro v w ⟨rfl, hS⟩
            refine EL.quick 2 [1, 36] [(1, .int .i32 t171), (36, .bool (t189))] (by kernel_rfl) ?_
            by_cases h191 : t189 = true
            · rw [if_pos h191] at H
              refine EL.keep [1, 36] [(1, .int .i32 t171), (36, .bool (t189))] (by kernel_rfl) ?_
              refine EL.as' [(1, .int .i32 t171), (36, .bool (true))] (by simp only [h191, Bool.not_true, Bool.not_false]) ?_
              refine EL.quick 1 [36, 37] [(36, .bool (true)), (37, .int .i32 t171)] (by kernel_rfl) ?_
              obtain ⟨t192, hc193, H⟩ := b1_out H
              refine EL.of (EO.callD 27 [.int .i32 t171, .int .i64 1] _ 38 (by kernel_rfl) (by kernel_rfl) (by kernel_rfl) (ident_Valid.calls hc193 hS) ?_)
              rintro v w ⟨rfl, hS⟩
              refine EL.quick 3 [41] [(41, .bool (!(t192)))] (by kernel_rfl) ?_
              by_cases h194 : t192 = true
              · rw [if_pos h194] at H
                refine EL.keep [41] [(41, .bool (!(t192)))] (by kernel_rfl) ?_
                refine EL.as' [(41, .bool (false))] (by simp only [h194, Bool.not_true, Bool.not_false]) ?_
                refine EL.quick 4 [0] [(0, .bool (false))] (by kernel_rfl) ?_
                refine EL.done (by kernel_rfl) ?_
                refine EQ.code ?_
                refine EW.ret (by kernel_rfl) ?_
                obtain rfl := Option.some.inj H
                exact EQ.leave (.bool (false)) (by kernel_rfl) ⟨_, rfl, rfl, (hS.re [] [] rfl (sub_self))⟩
              · rw [if_neg h194] at H
                refine EL.keep [41] [(41, .bool (!(t192)))] (by kernel_rfl) ?_
                refine EL.as' [(41, .bool (true))] (by simp only [(Bool.eq_false_iff.2 h194), Bool.not_true, Bool.not_false]) ?_
                obtain ⟨t195, hc196, H⟩ := b1_out H
                refine EL.of (EO.callD 23 [.int .i32 (-1)] _ 42 (by kernel_rfl) (by kernel_rfl) (by kernel_rfl) (ident_Label.calls hc196 hS) ?_)
                rintro v w ⟨rfl, hS⟩
                refine EL.quick 3 [0] [(0, .bool (decide (t195 = (-1))))] (by kernel_rfl) ?_
                refine EL.done (by kernel_rfl) ?_
                refine EQ.code ?_
                refine EW.ret (by kernel_rfl) ?_
                obtain rfl := Option.some.inj H
                exact EQ.leave (.bool (decide (t195 = (-1)))) (by kernel_rfl) ⟨_, rfl, rfl, (hS.re [] [] rfl (sub_self))⟩
            · rw [if_neg h191] at H
              refine EL.keep [1, 36] [(1, .int .i32 t171), (36, .bool (t189))] (by kernel_rfl) ?_
              refine EL.as' [(1, .int .i32 t171), (36, .bool (false))] (by simp only [(Bool.eq_false_iff.2 h191), Bool.not_true, Bool.not_false]) ?_
              refine EL.quick 9 [0] [(0, .bool (false))] (by kernel_rfl) ?_
              refine EL.done (by kernel_rfl) ?_
              refine EQ.code ?_
              refine EW.ret (by kernel_rfl) ?_
              obtain rfl := Option.some.inj H
              exact EQ.leave (.bool (false)) (by kernel_rfl) ⟨_, rfl, rfl, (hS.re [] [] rfl (sub_self))⟩
          · rw [if_neg h188] at H
            refine EL.keep [1, 32] [(1, .int .i32 t171), (32, .bool (decide (t186 = 2)))] (by kernel_rfl) ?_
            refine EL.as' [(1, .int .i32 t171), (32, .bool (false))] (by simp only [dec_f h188, Bool.not_true, Bool.not_false]) ?_
            refine EL.quick 13 [0] [(0, .bool (false))] (by kernel_rfl) ?_
            refine EL.done (by kernel_rfl) ?_
            refine EQ.code ?_
            refine EW.ret (by kernel_rfl) ?_
            obtain rfl := Option.some.inj H
            exact EQ.leave (.bool (false)) (by kernel_rfl) ⟨_, rfl, rfl, (hS.re [] [] rfl (sub_self))⟩
        · rw [if_neg h185] at H
          refine EL.keep [1, 27] [(1, .int .i32 t171), (27, .bool (decide (t183 = 1)))] (by kernel_rfl) ?_
          refine EL.as' [(1, .int .i32 t171), (27, .bool (false))] (by simp only [dec_f h185, Bool.not_true, Bool.not_false]) ?_
          refine EL.quick 18 [0] [(0, .bool (false))] (by kernel_rfl) ?_
          refine EL.done (by kernel_rfl) ?_
          refine EQ.code ?_
          refine EW.ret (by kernel_rfl) ?_
          obtain rfl := Option.some.inj H
          exact EQ.leave (.bool (false)) (by kernel_rfl) ⟨_, rfl, rfl, (hS.re [] [] rfl (sub_self))⟩
    · rw [if_neg h181] at H
      refine EL.keep [1, 4, 18] [(1, .int .i32 t171), (4, .bool (t178)), (18, .bool (decide (t171 = 65538)))] (by kernel_rfl) ?_
      refine EL.as' [(1, .int .i32 t171), (4, .bool (t178)), (18, .bool (false))] (by simp only [dec_f h181, Bool.not_true, Bool.not_false]) ?_
      refine EL.quick 27 [0] [(0, .bool (false))] (by kernel_rfl) ?_
      refine EL.done (by kernel_rfl) ?_
      refine EQ.code ?_
      refine EW.ret (by kernel_rfl) ?_
      obtain rfl := Option.some.inj H
      exact EQ.leave (.bool (false)) (by kernel_rfl) ⟨_, rfl, rfl, (hS.re [] [] rfl (sub_self))⟩
  · rw [if_neg h180] at H
    refine EL.keep [1, 4, 14] [(1, .int .i32 t171), (4, .bool (t178)), (14, .bool (t172))] (by kernel_rfl) ?_
    refine EL.as' [(1, .int .i32 t171), (4, .bool (t178)), (14, .bool (false))] (by simp only [(Bool.eq_false_iff.2 h180), Bool.not_true, Bool.not_false]) ?_
    refine EL.quick 31 [0] [(0, .bool (false))] (by kernel_rfl) ?_
    refine EL.done (by kernel_rfl) ?_
    refine EQ.code ?_
    refine EW.ret (by kernel_rfl) ?_
    obtain rfl := Option.some.inj H
    exact EQ.leave (.bool (false)) (by kernel_rfl) ⟨_, rfl, rfl, (hS.re [] [] rfl (sub_self))⟩

/-! ### confidant/confidantref9.Of: function 22 -/
def confidantref9_Of.f (K : Nat) (a221 : Int) (a222 : Int) : Option (Int × Bool) := lt (fun (x268 : Bool) => (if x268 = true then (some (0, false)) else (lt (IntKind.i32.wrap (IntKind.i64.wrap ((IntKind.i64.wrap (a221 * 65536)) + a222))) fun y274 => (some (y274, true))))) fun j269 => (if a221 < 0 then (j269 true) else (if a221 ≥ 16 then (j269 true) else (if a222 < 0 then (j269 true) else (j269 (decide (a222 ≥ 65536))))))
set_option maxRecDepth 100000 in
theorem confidantref9_Of.calls {K : Nat} {a221 : Int} {a222 : Int} {x248 : Int} {x249 : Bool} {B w : World} {os : List Ass} {rs : List Ro} (H : confidantref9_Of.f K a221 a222 = some (x248, x249)) (hS : St B w (os) (rs)) :
    Calls Try.prog 22 [.int .i64 a221, .int .i64 a222].toArray w (fun en w' => ∃ v, en = .returned v ∧ v = .tuple #[.int .i32 x248, .bool (x249)] ∧ St B w' (os) (rs)) := by
  unfold confidantref9_Of.f at H
  refine calls_of_EW (args := [.int .i64 a221, .int .i64 a222]) (c := C22) 25 Try.func22 (by kernel_rfl) (by kernel_rfl) (by kernel_rfl) ?_
  refine EW.seq (x := C22.l) (y := C22.r) (by kernel_rfl) ?_
  refine EW.region (id := 0) (ops := C22.l.ops) (by kernel_rfl) ?_
  refine EL.quick 2 [0, 1] [(0, .int .i64 a221), (1, .int .i64 a222)] (by kernel_rfl) ?_
  refine EL.done (by kernel_rfl) ?_
  refine EQ.code ?_
  refine EW.seq (x := C22.r.l) (y := C22.r.r) (by kernel_rfl) ?_
  obtain ⟨j269, hj269, H⟩ := lt_out H
  refine EW.cut (x := C22.r.l.l) (y := C22.r.l.r) (fun a w => ∃ x268 : Bool, Sat 25 [(0, .int .i64 a221), (1, .int .i64 a222), (19, .bool (x268))] a ∧ St B w (os) (rs) ∧ j269 x268 = some (x248, x249)) (by kernel_rfl) ?_ (fun a w hI => ?_)
  · refine EW.region (id := 1) (ops := C22.r.l.l.ops) (by kernel_rfl) ?_
    refine EL.quick 3 [0, 1, 8] [(0, .int .i64 a221), (1, .int .i64 a222), (8, .bool (decide (a221 < 0)))] (by kernel_rfl) ?_
    by_cases h270 : a221 < 0
    · rw [if_pos h270] at H
      refine EL.keep [0, 1, 8] [(0, .int .i64 a221), (1, .int .i64 a222), (8, .bool (decide (a221 < 0)))] (by kernel_rfl) ?_
      refine EL.as' [(0, .int .i64 a221), (1, .int .i64 a222), (8, .bool (true))] (by simp only [dec_t h270, Bool.not_true, Bool.not_false]) ?_
      refine EL.quick 11 [0, 1, 19] [(0, .int .i64 a221), (1, .int .i64 a222), (19, .bool (true))] (by kernel_rfl) ?_
      refine EL.done (by kernel_rfl) ?_
      refine EQ.to ?_
      refine EQ.keep [0, 1, 19] [(0, .int .i64 a221), (1, .int .i64 a222), (19, .bool (true))] (by kernel_rfl) ?_
      exact fun a ha => ⟨true, ha, (hS.re [] [] rfl (sub_self)), H⟩
    · rw [if_neg h270] at H
      refine EL.keep [0, 1, 8] [(0, .int .i64 a221), (1, .int .i64 a222), (8, .bool (decide (a221 < 0)))] (by kernel_rfl) ?_
      refine EL.as' [(0, .int .i64 a221), (1, .int .i64 a222), (8, .bool (false))] (by simp only [dec_f h270, Bool.not_true, Bool.not_false]) ?_
      refine EL.quick 4 [0, 1, 12] [(0, .int .i64 a221), (1, .int .i64 a222), (12, .bool (decide (a221 ≥ 16)))] (by kernel_rfl) ?_
      by_cases h271 : a221 ≥ 16
      · rw [if_pos h271] at H
        refine EL.keep [0, 1, 12] [(0, .int .i64 a221), (1, .int .i64 a222), (12, .bool (decide (a221 ≥ 16)))] (by kernel_rfl) ?_
        refine EL.as' [(0, .int .i64 a221), (1, .int .i64 a222), (12, .bool (true))] (by simp only [dec_t h271, Bool.not_true, Bool.not_false]) ?_
        refine EL.quick 7 [0, 1, 19] [(0, .int .i64 a221), (1, .int .i64 a222), (19, .bool (true))] (by kernel_rfl) ?_
        refine EL.done (by kernel_rfl) ?_
        refine EQ.to ?_
        refine EQ.keep [0, 1, 19] [(0, .int .i64 a221), (1, .int .i64 a222), (19, .bool (true))] (by kernel_rfl) ?_
        exact fun a ha => ⟨true, ha, (hS.re [] [] rfl (sub_self)), H⟩
      · rw [if_neg h271] at H
        refine EL.keep [0, 1, 12] [(0, .int .i64 a221), (1, .int .i64 a222), (12, .bool (decide (a221 ≥ 16)))] (by kernel_rfl) ?_
        refine EL.as' [(0, .int .i64 a221), (1, .int .i64 a222), (12, .bool (false))] (by simp only [dec_f h271, Bool.not_true, Bool.not_false]) ?_
        refine EL.quick 4 [0, 1, 16] [(0, .int .i64 a221), (1, .int .i64 a222), (16, .bool (decide (a222 < 0)))] (by kernel_rfl) ?_
        by_cases h272 : a222 < 0
        · rw [if_pos h272] at H
          refine EL.keep [0, 1, 16] [(0, .int .i64 a221), (1, .int .i64 a222), (16, .bool (decide (a222 < 0)))] (by kernel_rfl) ?_
          refine EL.as' [(0, .int .i64 a221), (1, .int .i64 a222), (16, .bool (true))] (by simp only [dec_t h272, Bool.not_true, Bool.not_false]) ?_
          refine EL.quick 3 [0, 1, 19] [(0, .int .i64 a221), (1, .int .i64 a222), (19, .bool (true))] (by kernel_rfl) ?_
          refine EL.done (by kernel_rfl) ?_
          refine EQ.to ?_
          refine EQ.keep [0, 1, 19] [(0, .int .i64 a221), (1, .int .i64 a222), (19, .bool (true))] (by kernel_rfl) ?_
          exact fun a ha => ⟨true, ha, (hS.re [] [] rfl (sub_self)), H⟩
        · rw [if_neg h272] at H
          refine EL.keep [0, 1, 16] [(0, .int .i64 a221), (1, .int .i64 a222), (16, .bool (decide (a222 < 0)))] (by kernel_rfl) ?_
          refine EL.as' [(0, .int .i64 a221), (1, .int .i64 a222), (16, .bool (false))] (by simp only [dec_f h272, Bool.not_true, Bool.not_false]) ?_
          refine EL.quick 3 [0, 1, 19] [(0, .int .i64 a221), (1, .int .i64 a222), (19, .bool (decide (a222 ≥ 65536)))] (by kernel_rfl) ?_
          refine EL.done (by kernel_rfl) ?_
          refine EQ.to ?_
          refine EQ.keep [0, 1, 19] [(0, .int .i64 a221), (1, .int .i64 a222), (19, .bool (decide (a222 ≥ 65536)))] (by kernel_rfl) ?_
          exact fun a ha => ⟨decide (a222 ≥ 65536), ha, (hS.re [] [] rfl (sub_self)), H⟩
  · obtain ⟨x268, ha, hS, H⟩ := hI
    rw [hj269] at H
    (try dsimp only at H)
    refine EW.at ?_ a ha
    clear ha a
    refine EW.condP' (o := (.tmp 19)) (x := C22.r.l.r.l) (y := C22.r.l.r.r) (x268) (by kernel_rfl) (by kernel_rfl) (fun h273 => ?_) (fun h273 => ?_)
    · rw [if_pos h273] at H
      refine EW.seq (x := C22.r.l.r.l.l) (y := C22.r.l.r.l.r) (by kernel_rfl) ?_
      refine EW.region (id := 2) (ops := C22.r.l.r.l.l.ops) (by kernel_rfl) ?_
      refine EL.quick 2 [4, 5] [(4, .int .i32 0), (5, .bool (false))] (by kernel_rfl) ?_
      refine EL.done (by kernel_rfl) ?_
      refine EQ.code ?_
      refine EW.ret (by kernel_rfl) ?_
      refine EQ.ret ?_
      simp only [Option.some.injEq, Prod.mk.injEq] at H
      obtain ⟨rfl, rfl⟩ := H
      exact EQ.leave (.tuple #[.int .i32 0, .bool (false)]) (by kernel_rfl) ⟨_, rfl, rfl, (hS.re [] [] rfl (sub_self))⟩
    · rw [if_neg h273] at H
      refine EW.skip (by kernel_rfl) ?_
      refine EQ.code ?_
      refine EW.seq (x := C22.r.r.l) (y := C22.r.r.r) (by kernel_rfl) ?_
      refine EW.region (id := 3) (ops := C22.r.r.l.ops) (by kernel_rfl) ?_
      refine EL.quick 7 [4, 5] [(4, .int .i32 (IntKind.i32.wrap (IntKind.i64.wrap ((IntKind.i64.wrap (a221 * 65536)) + a222)))), (5, .bool (true))] (by kernel_rfl) ?_
      obtain ⟨y274, hy274, H⟩ := lt_out H
      refine EL.keep [4, 5] [(4, .int .i32 (IntKind.i32.wrap (IntKind.i64.wrap ((IntKind.i64.wrap (a221 * 65536)) + a222)))), (5, .bool (true))] (by kernel_rfl) ?_
      refine EL.as' [(4, .int .i32 y274), (5, .bool (true))] (by subst hy274; rfl) ?_
      refine EL.done (by kernel_rfl) ?_
      refine EQ.code ?_
      refine EW.ret (by kernel_rfl) ?_
      simp only [Option.some.injEq, Prod.mk.injEq] at H
      obtain ⟨rfl, rfl⟩ := H
      exact EQ.leave (.tuple #[.int .i32 y274, .bool (true)]) (by kernel_rfl) ⟨_, rfl, rfl, (hS.re [] [] rfl (sub_self))⟩

/-! ### confidant/confidantref9.Label: function 25 -/
def confidantref9_Label.f (K : Nat) (a1080 : Int) : Option Int := if a1080 < 0 then (some (-1)) else (some (IntKind.i64.wrap (IntKind.i32.wrap (Int.tdiv a1080 65536))))
set_option maxRecDepth 100000 in
theorem confidantref9_Label.calls {K : Nat} {a1080 : Int} {x1083 : Int} {B w : World} {os : List Ass} {rs : List Ro} (H : confidantref9_Label.f K a1080 = some x1083) (hS : St B w (os) (rs)) :
    Calls Try.prog 25 [.int .i32 a1080].toArray w (fun en w' => ∃ v, en = .returned v ∧ v = .int .i64 x1083 ∧ St B w' (os) (rs)) := by
  unfold confidantref9_Label.f at H
  refine calls_of_EW (args := [.int .i32 a1080]) (c := C25) 8 Try.func25 (by kernel_rfl) (by kernel_rfl) (by kernel_rfl) ?_
  refine EW.seq (x := C25.l) (y := C25.r) (by kernel_rfl) ?_
  refine EW.region (id := 0) (ops := C25.l.ops) (by kernel_rfl) ?_
  refine EL.quick 1 [0] [(0, .int .i32 a1080)] (by kernel_rfl) ?_
  refine EL.done (by kernel_rfl) ?_
  refine EQ.code ?_
  refine EW.seq (x := C25.r.l) (y := C25.r.r) (by kernel_rfl) ?_
  refine EW.seq (x := C25.r.l.l) (y := C25.r.l.r) (by kernel_rfl) ?_
  refine EW.region (id := 1) (ops := C25.r.l.l.ops) (by kernel_rfl) ?_
  refine EL.quick 2 [0, 4] [(0, .int .i32 a1080), (4, .bool (decide (a1080 < 0)))] (by kernel_rfl) ?_
  refine EL.done (by kernel_rfl) ?_
  refine EQ.code ?_
  refine EW.condP (o := (.tmp 4)) (x := C25.r.l.r.l) (y := C25.r.l.r.r) (a1080 < 0) (by kernel_rfl) (by kernel_rfl) (fun h1085 => ?_) (fun h1085 => ?_)
  · rw [if_pos h1085] at H
    refine EW.seq (x := C25.r.l.r.l.l) (y := C25.r.l.r.l.r) (by kernel_rfl) ?_
    refine EW.region (id := 2) (ops := C25.r.l.r.l.l.ops) (by kernel_rfl) ?_
    refine EL.quick 1 [2] [(2, .int .i64 (-1))] (by kernel_rfl) ?_
    refine EL.done (by kernel_rfl) ?_
    refine EQ.code ?_
    refine EW.ret (by kernel_rfl) ?_
    refine EQ.ret ?_
    obtain rfl := Option.some.inj H
    exact EQ.leave (.int .i64 (-1)) (by kernel_rfl) ⟨_, rfl, rfl, (hS.re [] [] rfl (sub_self))⟩
  · rw [if_neg h1085] at H
    refine EW.skip (by kernel_rfl) ?_
    refine EQ.code ?_
    refine EW.seq (x := C25.r.r.l) (y := C25.r.r.r) (by kernel_rfl) ?_
    refine EW.region (id := 3) (ops := C25.r.r.l.ops) (by kernel_rfl) ?_
    refine EL.quick 4 [2] [(2, .int .i64 (IntKind.i64.wrap (IntKind.i32.wrap (Int.tdiv a1080 65536))))] (by kernel_rfl) ?_
    refine EL.done (by kernel_rfl) ?_
    refine EQ.code ?_
    refine EW.ret (by kernel_rfl) ?_
    obtain rfl := Option.some.inj H
    exact EQ.leave (.int .i64 (IntKind.i64.wrap (IntKind.i32.wrap (Int.tdiv a1080 65536)))) (by kernel_rfl) ⟨_, rfl, rfl, (hS.re [] [] rfl (sub_self))⟩

/-! ### confidant/confidantref9.Number: function 26 -/
def confidantref9_Number.f (K : Nat) (a1091 : Int) : Option Int := if a1091 < 0 then (some (-1)) else (some (IntKind.i64.wrap (Int.tmod a1091 65536)))
set_option maxRecDepth 100000 in
theorem confidantref9_Number.calls {K : Nat} {a1091 : Int} {x1094 : Int} {B w : World} {os : List Ass} {rs : List Ro} (H : confidantref9_Number.f K a1091 = some x1094) (hS : St B w (os) (rs)) :
    Calls Try.prog 26 [.int .i32 a1091].toArray w (fun en w' => ∃ v, en = .returned v ∧ v = .int .i64 x1094 ∧ St B w' (os) (rs)) := by
  unfold confidantref9_Number.f at H
  refine calls_of_EW (args := [.int .i32 a1091]) (c := C26) 8 Try.func26 (by kernel_rfl) (by kernel_rfl) (by kernel_rfl) ?_
  refine EW.seq (x := C26.l) (y := C26.r) (by kernel_rfl) ?_
  refine EW.region (id := 0) (ops := C26.l.ops) (by kernel_rfl) ?_
  refine EL.quick 1 [0] [(0, .int .i32 a1091)] (by kernel_rfl) ?_
  refine EL.done (by kernel_rfl) ?_
  refine EQ.code ?_
  refine EW.seq (x := C26.r.l) (y := C26.r.r) (by kernel_rfl) ?_
  refine EW.seq (x := C26.r.l.l) (y := C26.r.l.r) (by kernel_rfl) ?_
  refine EW.region (id := 1) (ops := C26.r.l.l.ops) (by kernel_rfl) ?_
  refine EL.quick 2 [0, 4] [(0, .int .i32 a1091), (4, .bool (decide (a1091 < 0)))] (by kernel_rfl) ?_
  refine EL.done (by kernel_rfl) ?_
  refine EQ.code ?_
  refine EW.condP (o := (.tmp 4)) (x := C26.r.l.r.l) (y := C26.r.l.r.r) (a1091 < 0) (by kernel_rfl) (by kernel_rfl) (fun h1096 => ?_) (fun h1096 => ?_)
  · rw [if_pos h1096] at H
    refine EW.seq (x := C26.r.l.r.l.l) (y := C26.r.l.r.l.r) (by kernel_rfl) ?_
    refine EW.region (id := 2) (ops := C26.r.l.r.l.l.ops) (by kernel_rfl) ?_
    refine EL.quick 1 [2] [(2, .int .i64 (-1))] (by kernel_rfl) ?_
    refine EL.done (by kernel_rfl) ?_
    refine EQ.code ?_
    refine EW.ret (by kernel_rfl) ?_
    refine EQ.ret ?_
    obtain rfl := Option.some.inj H
    exact EQ.leave (.int .i64 (-1)) (by kernel_rfl) ⟨_, rfl, rfl, (hS.re [] [] rfl (sub_self))⟩
  · rw [if_neg h1096] at H
    refine EW.skip (by kernel_rfl) ?_
    refine EQ.code ?_
    refine EW.seq (x := C26.r.r.l) (y := C26.r.r.r) (by kernel_rfl) ?_
    refine EW.region (id := 3) (ops := C26.r.r.l.ops) (by kernel_rfl) ?_
    refine EL.quick 4 [2] [(2, .int .i64 (IntKind.i64.wrap (Int.tmod a1091 65536)))] (by kernel_rfl) ?_
    refine EL.done (by kernel_rfl) ?_
    refine EQ.code ?_
    refine EW.ret (by kernel_rfl) ?_
    obtain rfl := Option.some.inj H
    exact EQ.leave (.int .i64 (IntKind.i64.wrap (Int.tmod a1091 65536))) (by kernel_rfl) ⟨_, rfl, rfl, (hS.re [] [] rfl (sub_self))⟩

/-! ### confidant/confidantref9.Valid: function 28 -/
def confidantref9_Valid.f (K : Nat) (a1102 : Int) (a1103 : Int) : Option Bool := if a1102 ≥ 0 then (b1 (confidantref9_Label.f K a1102) fun (t1109 : Int) => (some (decide (t1109 < (mn a1103 16))))) else (some false)
set_option maxRecDepth 100000 in
theorem confidantref9_Valid.calls {K : Nat} {a1102 : Int} {a1103 : Int} {x1107 : Bool} {B w : World} {os : List Ass} {rs : List Ro} (H : confidantref9_Valid.f K a1102 a1103 = some x1107) (hS : St B w (os) (rs)) :
    Calls Try.prog 28 [.int .i32 a1102, .int .i64 a1103].toArray w (fun en w' => ∃ v, en = .returned v ∧ v = .bool (x1107) ∧ St B w' (os) (rs)) := by
  unfold confidantref9_Valid.f at H
  refine calls_of_EW (args := [.int .i32 a1102, .int .i64 a1103]) (c := C28) 14 Try.func28 (by kernel_rfl) (by kernel_rfl) (by kernel_rfl) ?_
  refine EW.seq (x := C28.l) (y := C28.r) (by kernel_rfl) ?_
  refine EW.region (id := 0) (ops := C28.l.ops) (by kernel_rfl) ?_
  refine EL.quick 1 [0, 1] [(0, .int .i32 a1102), (1, .int .i64 a1103)] (by kernel_rfl) ?_
  refine EL.done (by kernel_rfl) ?_
  refine EQ.code ?_
  refine EW.seq (x := C28.r.l) (y := C28.r.r) (by kernel_rfl) ?_
  refine EW.region (id := 1) (ops := C28.r.l.ops) (by kernel_rfl) ?_
  refine EL.quick 3 [0, 1, 7] [(0, .int .i32 a1102), (1, .int .i64 a1103), (7, .bool (decide (a1102 ≥ 0)))] (by kernel_rfl) ?_
  by_cases h1108 : a1102 ≥ 0
  · rw [if_pos h1108] at H
    refine EL.keep [0, 1, 7] [(0, .int .i32 a1102), (1, .int .i64 a1103), (7, .bool (decide (a1102 ≥ 0)))] (by kernel_rfl) ?_
    refine EL.as' [(0, .int .i32 a1102), (1, .int .i64 a1103), (7, .bool (true))] (by simp only [dec_t h1108, Bool.not_true, Bool.not_false]) ?_
    refine EL.quick 1 [1, 7, 8] [(1, .int .i64 a1103), (7, .bool (true)), (8, .int .i32 a1102)] (by kernel_rfl) ?_
    obtain ⟨t1109, hc1110, H⟩ := b1_out H
    refine EL.of (EO.callD 25 [.int .i32 a1102] _ 9 (by kernel_rfl) (by kernel_rfl) (by kernel_rfl) (confidantref9_Label.calls hc1110 hS) ?_)
    rintro v w ⟨rfl, hS⟩
    refine EL.quick 5 [4] [(4, .bool (decide (t1109 < (mn a1103 16))))] (by kernel_rfl) ?_
    refine EL.done (by kernel_rfl) ?_
    refine EQ.code ?_
    refine EW.ret (by kernel_rfl) ?_
    obtain rfl := Option.some.inj H
    exact EQ.leave (.bool (decide (t1109 < (mn a1103 16)))) (by kernel_rfl) ⟨_, rfl, rfl, (hS.re [] [] rfl (sub_self))⟩
  · rw [if_neg h1108] at H
    refine EL.keep [0, 1, 7] [(0, .int .i32 a1102), (1, .int .i64 a1103), (7, .bool (decide (a1102 ≥ 0)))] (by kernel_rfl) ?_
    refine EL.as' [(0, .int .i32 a1102), (1, .int .i64 a1103), (7, .bool (false))] (by simp only [dec_f h1108, Bool.not_true, Bool.not_false]) ?_
    refine EL.quick 7 [4] [(4, .bool (false))] (by kernel_rfl) ?_
    refine EL.done (by kernel_rfl) ?_
    refine EQ.code ?_
    refine EW.ret (by kernel_rfl) ?_
    obtain rfl := Option.some.inj H
    exact EQ.leave (.bool (false)) (by kernel_rfl) ⟨_, rfl, rfl, (hS.re [] [] rfl (sub_self))⟩

end Go.Proofs.Ytepokhmomojcmaa.G
