import Derived.Test.YtjfnejcanlkknaaProg
import Derived.Test.YtjfnejcanlkknaaFwMut
namespace Go.Proofs.Ytjfnejcanlkknaa.G
open Go Go.Fw Go.RowKit Go.Proofs
set_option linter.unusedVariables false
set_option linter.unusedSimpArgs false

noncomputable def C7 : Code := bodyOf Try.f7

noncomputable def C15 : Code := bodyOf Try.f15

noncomputable def C16 : Code := bodyOf Try.f16

noncomputable def C19 : Code := bodyOf Try.f19

noncomputable def C31 : Code := bodyOf Try.f31

noncomputable def C32 : Code := bodyOf Try.f32

noncomputable def C33 : Code := bodyOf Try.f33

noncomputable def C34 : Code := bodyOf Try.f34

noncomputable def C35 : Code := bodyOf Try.f35

noncomputable def C36 : Code := bodyOf Try.f36

noncomputable def C37 : Code := bodyOf Try.f37

noncomputable def C38 : Code := bodyOf Try.f38

noncomputable def C39 : Code := bodyOf Try.f39

noncomputable def C40 : Code := bodyOf Try.f40

noncomputable def C41 : Code := bodyOf Try.f41

noncomputable def C62 : Code := bodyOf Try.f62

noncomputable def C63 : Code := bodyOf Try.f63

noncomputable def C64 : Code := bodyOf Try.f64

noncomputable def C65 : Code := bodyOf Try.f65

noncomputable def C78 : Code := bodyOf Try.f78

noncomputable def C79 : Code := bodyOf Try.f79

/-! ### confidant/table.At: function 36 -/
def table_At.f (K : Nat) (l27 : List Int) (a30 : Int) : Option Int := if (l27.length : Int) = 0 then (some (-1)) else (if 0 ≤ (Int.tmod (mx a30 0) (l27.length : Int)) then (if (Int.tmod (mx a30 0) (l27.length : Int)) < (l27.length : Int) then (some (l27.getD (Int.tmod (mx a30 0) (l27.length : Int)).toNat 0)) else none) else none)
set_option maxRecDepth 100000 in
theorem table_At.calls {K : Nat} {l27 : List Int} {a30 : Int} {A28 : Option Addr} {C29 : Nat} {x37 : Int} {B w : World} {os : List Ass} {rs : List Ro} (H : table_At.f K l27 a30 = some x37) (hS : St B w (os) (Ro.sl (Kd.int .i64) A28 C29 l27 :: rs)) :
    Calls Try.prog 36 [.slice A28 l27.length C29, .int .i64 a30].toArray w (fun en w' => ∃ v, en = .returned v ∧ v = .int .i64 x37 ∧ St B w' (os) (Ro.sl (Kd.int .i64) A28 C29 l27 :: rs)) := by
  unfold table_At.f at H
  refine calls_of_EW (args := [.slice A28 l27.length C29, .int .i64 a30]) (c := C36) 16 Try.func36 (by kernel_rfl) (by kernel_rfl) (by kernel_rfl) ?_
  refine EW.seq (x := C36.l) (y := C36.r) (by kernel_rfl) ?_
  refine EW.region (id := 0) (ops := C36.l.ops) (by kernel_rfl) ?_
  refine EL.quick 1 [0, 1] [(0, .slice A28 l27.length C29), (1, .int .i64 a30)] (by kernel_rfl) ?_
  refine EL.done (by kernel_rfl) ?_
  refine EQ.code ?_
  refine EW.seq (x := C36.r.l) (y := C36.r.r) (by kernel_rfl) ?_
  refine EW.seq (x := C36.r.l.l) (y := C36.r.l.r) (by kernel_rfl) ?_
  refine EW.region (id := 1) (ops := C36.r.l.l.ops) (by kernel_rfl) ?_
  refine EL.quick 3 [0, 1, 7] [(0, .slice A28 l27.length C29), (1, .int .i64 a30), (7, .bool (decide ((l27.length : Int) = 0)))] (by kernel_rfl) ?_
  refine EL.done (by kernel_rfl) ?_
  refine EQ.code ?_
  refine EW.condP (o := (.tmp 7)) (x := C36.r.l.r.l) (y := C36.r.l.r.r) ((l27.length : Int) = 0) (by kernel_rfl) (by kernel_rfl) (fun h39 => ?_) (fun h39 => ?_)
  · rw [if_pos h39] at H
    refine EW.seq (x := C36.r.l.r.l.l) (y := C36.r.l.r.l.r) (by kernel_rfl) ?_
    refine EW.region (id := 2) (ops := C36.r.l.r.l.l.ops) (by kernel_rfl) ?_
    refine EL.quick 1 [4] [(4, .int .i64 (-1))] (by kernel_rfl) ?_
    refine EL.done (by kernel_rfl) ?_
    refine EQ.code ?_
    refine EW.ret (by kernel_rfl) ?_
    refine EQ.ret ?_
    obtain rfl := Option.some.inj H
    exact EQ.leave (.int .i64 (-1)) (by kernel_rfl) ⟨_, rfl, rfl, (hS.re [] [] rfl (sub_self))⟩
  · rw [if_neg h39] at H
    refine EW.skip (by kernel_rfl) ?_
    refine EQ.code ?_
    refine EW.seq (x := C36.r.r.l) (y := C36.r.r.r) (by kernel_rfl) ?_
    refine EW.region (id := 3) (ops := C36.r.r.l.ops) (by kernel_rfl) ?_
    refine EL.quick 5 [8, 10, 12] [(8, .slice A28 l27.length C29), (10, .int .i64 (mx a30 0)), (12, .int .i64 (l27.length : Int))] (by kernel_rfl) ?_
    refine EL.of (EO.Y (YO.div .rem .i64 (mx a30 0) (l27.length : Int) (Int.tmod (mx a30 0) (l27.length : Int)) 13 (by kernel_rfl) (by kernel_rfl) (by kernel_rfl) h39 (by first | exact .inl ⟨rfl, rfl⟩ | exact .inr ⟨rfl, rfl⟩)) ?_)
    obtain ⟨h41, H⟩ := ite_in H
    obtain ⟨h42, H⟩ := ite_in H
    obtain ⟨ad43, rfl⟩ := St.rd_some hS (Rd.ro 0 rfl) h41 h42
    refine EL.of (EO.Y (YO.idx 24 1 ad43 l27.length C29 .i64 (Int.tmod (mx a30 0) (l27.length : Int)) 14 (by kernel_rfl) (by kernel_rfl) (by kernel_rfl) (by kernel_rfl) h41 h42) ?_)
    refine EL.of (EO.Y (YO.loadEl hS (Kd.int .i64) ad43 C29 l27 (Rd.ro 0 rfl) 0 (encI .i64) encI_of (Int.tmod (mx a30 0) (l27.length : Int)) h41 h42 3 1 0 1 rfl (.int .i64 (l27.getD (Int.tmod (mx a30 0) (l27.length : Int)).toNat 0)) 15 (by kernel_rfl) (by kernel_rfl) (by kernel_rfl) (by kernel_rfl)) ?_)
    refine EL.quick 1 [4] [(4, .int .i64 (l27.getD (Int.tmod (mx a30 0) (l27.length : Int)).toNat 0))] (by kernel_rfl) ?_
    refine EL.done (by kernel_rfl) ?_
    refine EQ.code ?_
    refine EW.ret (by kernel_rfl) ?_
    obtain rfl := Option.some.inj H
    exact EQ.leave (.int .i64 (l27.getD (Int.tmod (mx a30 0) (l27.length : Int)).toNat 0)) (by kernel_rfl) ⟨_, rfl, rfl, (hS.re [] [] rfl (sub_self))⟩

/-! ### confidant/table.Next: function 38 -/
def table_Next.l0 (K : Nat) (l53 : List Int) (a57 : Int) (a56 : Int) : Nat → Int → Option Int
  | 0, _ => none
  | n + 1, x162 => if x162 < (l53.length : Int) then (if (l53.length : Int) = 0 then none else (if 0 ≤ (Int.tmod (IntKind.i64.wrap ((Int.tmod (mx a57 0) (l53.length : Int)) + x162)) (l53.length : Int)) then (if (Int.tmod (IntKind.i64.wrap ((Int.tmod (mx a57 0) (l53.length : Int)) + x162)) (l53.length : Int)) < (l53.length : Int) then (if (l53.getD (Int.tmod (IntKind.i64.wrap ((Int.tmod (mx a57 0) (l53.length : Int)) + x162)) (l53.length : Int)).toNat 0) = a56 then (some (IntKind.i64.wrap ((mx a57 0) + x162))) else (table_Next.l0 K l53 a57 a56 n (IntKind.i64.wrap (x162 + 1)))) else none) else none)) else (some (-1))
def table_Next.f (K : Nat) (l53 : List Int) (a56 : Int) (a57 : Int) : Option Int := table_Next.l0 K l53 a57 a56 K 0
set_option maxRecDepth 100000 in
theorem table_Next.calls {K : Nat} {l53 : List Int} {a56 : Int} {a57 : Int} {A54 : Option Addr} {C55 : Nat} {x135 : Int} {B w : World} {os : List Ass} {rs : List Ro} (H : table_Next.f K l53 a56 a57 = some x135) (hS : St B w (os) (Ro.sl (Kd.int .i64) A54 C55 l53 :: rs)) :
    Calls Try.prog 38 [.slice A54 l53.length C55, .int .i64 a56, .int .i64 a57].toArray w (fun en w' => ∃ v, en = .returned v ∧ v = .int .i64 x135 ∧ St B w' (os) (Ro.sl (Kd.int .i64) A54 C55 l53 :: rs)) := by
  unfold table_Next.f at H
  refine calls_of_EW (args := [.slice A54 l53.length C55, .int .i64 a56, .int .i64 a57]) (c := C38) 33 Try.func38 (by kernel_rfl) (by kernel_rfl) (by kernel_rfl) ?_
  refine EW.seq (x := C38.l) (y := C38.r) (by kernel_rfl) ?_
  refine EW.region (id := 0) (ops := C38.l.ops) (by kernel_rfl) ?_
  refine EL.quick 1 [0, 1, 2] [(0, .slice A54 l53.length C55), (1, .int .i64 a56), (2, .int .i64 a57)] (by kernel_rfl) ?_
  refine EL.done (by kernel_rfl) ?_
  refine EQ.code ?_
  refine EW.seq (x := C38.r.l) (y := C38.r.r) (by kernel_rfl) ?_
  refine EW.region (id := 1) (ops := C38.r.l.ops) (by kernel_rfl) ?_
  refine EL.quick 3 [0, 1, 2] [(0, .slice A54 l53.length C55), (1, .int .i64 a56), (2, .int .i64 (mx a57 0))] (by kernel_rfl) ?_
  refine EL.done (by kernel_rfl) ?_
  refine EQ.code ?_
  refine EW.seq (x := C38.r.r.l) (y := C38.r.r.r) (by kernel_rfl) ?_
  refine EW.seq (x := C38.r.r.l.l) (y := C38.r.r.l.r) (by kernel_rfl) ?_
  refine EW.region (id := 2) (ops := C38.r.r.l.l.ops) (by kernel_rfl) ?_
  refine EL.quick 3 [0, 1, 2, 11, 12] [(0, .slice A54 l53.length C55), (1, .int .i64 a56), (2, .int .i64 (mx a57 0)), (11, .int .i64 (l53.length : Int)), (12, .int .i64 0)] (by kernel_rfl) ?_
  refine EL.done (by kernel_rfl) ?_
  refine EQ.code ?_
  refine EW.block (x := C38.r.r.l.r.l) (id := 0) (by kernel_rfl) ?_
  refine EW.loop (x := C38.r.r.l.r.l.l) (fun n a w => ∃ x162 : Int, Sat 33 [(0, .slice A54 l53.length C55), (1, .int .i64 a56), (2, .int .i64 (mx a57 0)), (11, .int .i64 (l53.length : Int)), (12, .int .i64 x162)] a ∧ St B w (os) (Ro.sl (Kd.int .i64) A54 C55 l53 :: rs) ∧ table_Next.l0 K l53 a57 a56 n x162 = some x135) K (by kernel_rfl) ?_ (fun n a w hI => ?_)
  · refine EQ.keep [0, 1, 2, 11, 12] [(0, .slice A54 l53.length C55), (1, .int .i64 a56), (2, .int .i64 (mx a57 0)), (11, .int .i64 (l53.length : Int)), (12, .int .i64 0)] (by kernel_rfl) ?_
    exact fun a ha => ⟨0, ha, (hS.re [] [] rfl (sub_cons 0 rfl (sub_tail (sub_self)))), H⟩
  · obtain ⟨x162, ha, hS, H⟩ := hI
    obtain _ | n := n
    · simp [table_Next.l0] at H
    rw [table_Next.l0.eq_2] at H
    refine EW.at ?_ a ha
    clear ha a
    refine EW.seq (x := C38.r.r.l.r.l.l.l) (y := C38.r.r.l.r.l.l.r) (by kernel_rfl) ?_
    refine EW.region (id := 3) (ops := C38.r.r.l.r.l.l.l.ops) (by kernel_rfl) ?_
    refine EL.quick 1 [0, 1, 2, 11, 12, 13] [(0, .slice A54 l53.length C55), (1, .int .i64 a56), (2, .int .i64 (mx a57 0)), (11, .int .i64 (l53.length : Int)), (12, .int .i64 x162), (13, .bool (decide (x162 < (l53.length : Int))))] (by kernel_rfl) ?_
    refine EL.done (by kernel_rfl) ?_
    refine EQ.code ?_
    refine EW.seq (x := C38.r.r.l.r.l.l.r.l) (y := C38.r.r.l.r.l.l.r.r) (by kernel_rfl) ?_
    refine EW.condP (o := (.tmp 13)) (x := C38.r.r.l.r.l.l.r.l.l) (y := C38.r.r.l.r.l.l.r.l.r) (x162 < (l53.length : Int)) (by kernel_rfl) (by kernel_rfl) (fun h190 => ?_) (fun h190 => ?_)
    · rw [if_pos h190] at H
      refine EW.skip (by kernel_rfl) ?_
      refine EQ.code ?_
      refine EW.seq (x := C38.r.r.l.r.l.l.r.r.l) (y := C38.r.r.l.r.l.l.r.r.r) (by kernel_rfl) ?_
      refine EW.block (x := C38.r.r.l.r.l.l.r.r.l.l) (id := 1) (by kernel_rfl) ?_
      refine EW.seq (x := C38.r.r.l.r.l.l.r.r.l.l.l) (y := C38.r.r.l.r.l.l.r.r.l.l.r) (by kernel_rfl) ?_
      refine EW.region (id := 4) (ops := C38.r.r.l.r.l.l.r.r.l.l.l.ops) (by kernel_rfl) ?_
      refine EL.quick 2 [0, 1, 2, 7, 11, 12] [(0, .slice A54 l53.length C55), (1, .int .i64 a56), (2, .int .i64 (mx a57 0)), (7, .int .i64 x162), (11, .int .i64 (l53.length : Int)), (12, .int .i64 x162)] (by kernel_rfl) ?_
      refine EL.done (by kernel_rfl) ?_
      refine EQ.code ?_
      refine EW.seq (x := C38.r.r.l.r.l.l.r.r.l.l.r.l) (y := C38.r.r.l.r.l.l.r.r.l.l.r.r) (by kernel_rfl) ?_
      refine EW.region (id := 5) (ops := C38.r.r.l.r.l.l.r.r.l.l.r.l.ops) (by kernel_rfl) ?_
      refine EL.quick 4 [0, 1, 2, 7, 11, 12, 15, 16, 18] [(0, .slice A54 l53.length C55), (1, .int .i64 a56), (2, .int .i64 (mx a57 0)), (7, .int .i64 x162), (11, .int .i64 (l53.length : Int)), (12, .int .i64 x162), (15, .slice A54 l53.length C55), (16, .int .i64 (mx a57 0)), (18, .int .i64 (l53.length : Int))] (by kernel_rfl) ?_
      obtain ⟨h207, H⟩ := ite_out H
      refine EL.of (EO.Y (YO.div .rem .i64 (mx a57 0) (l53.length : Int) (Int.tmod (mx a57 0) (l53.length : Int)) 19 (by kernel_rfl) (by kernel_rfl) (by kernel_rfl) h207 (by first | exact .inl ⟨rfl, rfl⟩ | exact .inr ⟨rfl, rfl⟩)) ?_)
      refine EL.quick 4 [0, 1, 2, 7, 11, 12, 15, 21, 23] [(0, .slice A54 l53.length C55), (1, .int .i64 a56), (2, .int .i64 (mx a57 0)), (7, .int .i64 x162), (11, .int .i64 (l53.length : Int)), (12, .int .i64 x162), (15, .slice A54 l53.length C55), (21, .int .i64 (IntKind.i64.wrap ((Int.tmod (mx a57 0) (l53.length : Int)) + x162))), (23, .int .i64 (l53.length : Int))] (by kernel_rfl) ?_
      refine EL.of (EO.Y (YO.div .rem .i64 (IntKind.i64.wrap ((Int.tmod (mx a57 0) (l53.length : Int)) + x162)) (l53.length : Int) (Int.tmod (IntKind.i64.wrap ((Int.tmod (mx a57 0) (l53.length : Int)) + x162)) (l53.length : Int)) 24 (by kernel_rfl) (by kernel_rfl) (by kernel_rfl) h207 (by first | exact .inl ⟨rfl, rfl⟩ | exact .inr ⟨rfl, rfl⟩)) ?_)
      obtain ⟨h209, H⟩ := ite_in H
      obtain ⟨h210, H⟩ := ite_in H
      obtain ⟨ad211, rfl⟩ := St.rd_some hS (Rd.ro 0 rfl) h209 h210
      refine EL.of (EO.Y (YO.idx 24 1 ad211 l53.length C55 .i64 (Int.tmod (IntKind.i64.wrap ((Int.tmod (mx a57 0) (l53.length : Int)) + x162)) (l53.length : Int)) 25 (by kernel_rfl) (by kernel_rfl) (by kernel_rfl) (by kernel_rfl) h209 h210) ?_)
      refine EL.of (EO.Y (YO.loadEl hS (Kd.int .i64) ad211 C55 l53 (Rd.ro 0 rfl) 0 (encI .i64) encI_of (Int.tmod (IntKind.i64.wrap ((Int.tmod (mx a57 0) (l53.length : Int)) + x162)) (l53.length : Int)) h209 h210 3 1 0 1 rfl (.int .i64 (l53.getD (Int.tmod (IntKind.i64.wrap ((Int.tmod (mx a57 0) (l53.length : Int)) + x162)) (l53.length : Int)).toNat 0)) 26 (by kernel_rfl) (by kernel_rfl) (by kernel_rfl) (by kernel_rfl)) ?_)
      refine EL.quick 2 [0, 1, 2, 7, 11, 12, 28] [(0, .slice (some ad211) l53.length C55), (1, .int .i64 a56), (2, .int .i64 (mx a57 0)), (7, .int .i64 x162), (11, .int .i64 (l53.length : Int)), (12, .int .i64 x162), (28, .bool (decide ((l53.getD (Int.tmod (IntKind.i64.wrap ((Int.tmod (mx a57 0) (l53.length : Int)) + x162)) (l53.length : Int)).toNat 0) = a56)))] (by kernel_rfl) ?_
      refine EL.done (by kernel_rfl) ?_
      refine EQ.code ?_
      refine EW.condP (o := (.tmp 28)) (x := C38.r.r.l.r.l.l.r.r.l.l.r.r.l) (y := C38.r.r.l.r.l.l.r.r.l.l.r.r.r) ((l53.getD (Int.tmod (IntKind.i64.wrap ((Int.tmod (mx a57 0) (l53.length : Int)) + x162)) (l53.length : Int)).toNat 0) = a56) (by kernel_rfl) (by kernel_rfl) (fun h212 => ?_) (fun h212 => ?_)
      · rw [if_pos h212] at H
        refine EW.seq (x := C38.r.r.l.r.l.l.r.r.l.l.r.r.l.l) (y := C38.r.r.l.r.l.l.r.r.l.l.r.r.l.r) (by kernel_rfl) ?_
        refine EW.region (id := 6) (ops := C38.r.r.l.r.l.l.r.r.l.l.r.r.l.l.ops) (by kernel_rfl) ?_
        refine EL.quick 4 [6] [(6, .int .i64 (IntKind.i64.wrap ((mx a57 0) + x162)))] (by kernel_rfl) ?_
        refine EL.done (by kernel_rfl) ?_
        refine EQ.code ?_
        refine EW.ret (by kernel_rfl) ?_
        refine EQ.ret ?_
        refine EQ.ret ?_
        refine EQ.ret ?_
        refine EQ.ret ?_
        refine EQ.ret ?_
        obtain rfl := Option.some.inj H
        exact EQ.leave (.int .i64 (IntKind.i64.wrap ((mx a57 0) + x162))) (by kernel_rfl) ⟨_, rfl, rfl, (hS.re [] [] rfl (sub_self))⟩
      · rw [if_neg h212] at H
        refine EW.skip (by kernel_rfl) ?_
        refine EQ.pop ?_
        refine EQ.code ?_
        refine EW.region (id := 7) (ops := C38.r.r.l.r.l.l.r.r.r.ops) (by kernel_rfl) ?_
        refine EL.quick 2 [0, 1, 2, 11, 12] [(0, .slice (some ad211) l53.length C55), (1, .int .i64 a56), (2, .int .i64 (mx a57 0)), (11, .int .i64 (l53.length : Int)), (12, .int .i64 (IntKind.i64.wrap (x162 + 1)))] (by kernel_rfl) ?_
        refine EL.done (by kernel_rfl) ?_
        refine EQ.to ?_
        refine EQ.keep [0, 1, 2, 11, 12] [(0, .slice (some ad211) l53.length C55), (1, .int .i64 a56), (2, .int .i64 (mx a57 0)), (11, .int .i64 (l53.length : Int)), (12, .int .i64 (IntKind.i64.wrap (x162 + 1)))] (by kernel_rfl) ?_
        exact fun a ha => ⟨n, Nat.lt_succ_self n, IntKind.i64.wrap (x162 + 1), ha, (hS.re [] [] rfl (sub_cons 0 rfl (sub_tail (sub_self)))), H⟩
    · rw [if_neg h190] at H
      refine EW.exit (id := 0) (by kernel_rfl) ?_
      refine EQ.exitCode ?_
      refine EQ.exitTo ?_
      refine EQ.exitHere ?_
      refine EQ.code ?_
      refine EW.seq (x := C38.r.r.r.l) (y := C38.r.r.r.r) (by kernel_rfl) ?_
      refine EW.region (id := 8) (ops := C38.r.r.r.l.ops) (by kernel_rfl) ?_
      refine EL.quick 1 [6] [(6, .int .i64 (-1))] (by kernel_rfl) ?_
      refine EL.done (by kernel_rfl) ?_
      refine EQ.code ?_
      refine EW.ret (by kernel_rfl) ?_
      obtain rfl := Option.some.inj H
      exact EQ.leave (.int .i64 (-1)) (by kernel_rfl) ⟨_, rfl, rfl, (hS.re [] [] rfl (sub_self))⟩

/-! ### confidant/table.ahead: function 65 -/
def table_ahead.l0 (K : Nat) (l237 : List Int) (a240 : Int) (a241 : Int) (j730 : Int → Int → Option Int) : Nat → Int → Int → Int → Option Int
  | 0, _, _, _ => none
  | n + 1, x760, x761, x762 => if x762 < (l237.length : Int) then (lt (fun (x816 : Int) (x817 : Int) => (table_ahead.l0 K l237 a240 a241 j730 n x816 x817 (IntKind.i64.wrap (x762 + 1)))) fun j818 => (if 0 ≤ x762 then (if (l237.getD x762.toNat 0) = a240 then (if (l237.length : Int) = 0 then none else (if x762 < (Int.tmod a241 (l237.length : Int)) then (j818 (IntKind.i64.wrap (x760 + 1)) (IntKind.i64.wrap (x761 + 1))) else (j818 (IntKind.i64.wrap (x760 + 1)) x761))) else (j818 x760 x761)) else none)) else (j730 x760 x761)
def table_ahead.f (K : Nat) (l237 : List Int) (a240 : Int) (a241 : Int) : Option Int := lt (fun (x728 : Int) (x729 : Int) => (if (l237.length : Int) = 0 then none else (lt (IntKind.i64.wrap ((IntKind.i64.wrap ((IntKind.i64.wrap (Int.tdiv a241 (l237.length : Int))) * x728)) + x729)) fun y828 => (some y828)))) fun j730 => (table_ahead.l0 K l237 a240 a241 j730 K 0 0 0)
set_option maxRecDepth 100000 in
theorem table_ahead.calls {K : Nat} {l237 : List Int} {a240 : Int} {a241 : Int} {A238 : Option Addr} {C239 : Nat} {x535 : Int} {B w : World} {os : List Ass} {rs : List Ro} (H : table_ahead.f K l237 a240 a241 = some x535) (hS : St B w (os) (Ro.sl (Kd.int .i64) A238 C239 l237 :: rs)) :
    Calls Try.prog 65 [.slice A238 l237.length C239, .int .i64 a240, .int .i64 a241].toArray w (fun en w' => ∃ v, en = .returned v ∧ v = .int .i64 x535 ∧ St B w' (os) (Ro.sl (Kd.int .i64) A238 C239 l237 :: rs)) := by
  unfold table_ahead.f at H
  refine calls_of_EW (args := [.slice A238 l237.length C239, .int .i64 a240, .int .i64 a241]) (c := C65) 40 Try.func65 (by kernel_rfl) (by kernel_rfl) (by kernel_rfl) ?_
  refine EW.seq (x := C65.l) (y := C65.r) (by kernel_rfl) ?_
  refine EW.region (id := 0) (ops := C65.l.ops) (by kernel_rfl) ?_
  refine EL.quick 1 [0, 1, 2] [(0, .slice A238 l237.length C239), (1, .int .i64 a240), (2, .int .i64 a241)] (by kernel_rfl) ?_
  refine EL.done (by kernel_rfl) ?_
  refine EQ.code ?_
  refine EW.seq (x := C65.r.l) (y := C65.r.r) (by kernel_rfl) ?_
  refine EW.region (id := 1) (ops := C65.r.l.ops) (by kernel_rfl) ?_
  refine EL.quick 2 [0, 1, 2, 7, 8] [(0, .slice A238 l237.length C239), (1, .int .i64 a240), (2, .int .i64 a241), (7, .int .i64 0), (8, .int .i64 0)] (by kernel_rfl) ?_
  refine EL.done (by kernel_rfl) ?_
  refine EQ.code ?_
  obtain ⟨j730, hj730, H⟩ := lt_out H
  refine EW.cut (x := C65.r.r.l) (y := C65.r.r.r) (fun a w => ∃ x728 : Int, ∃ x729 : Int, Sat 40 [(0, .slice A238 l237.length C239), (2, .int .i64 a241), (7, .int .i64 x728), (8, .int .i64 x729)] a ∧ St B w (os) (Ro.sl (Kd.int .i64) A238 C239 l237 :: rs) ∧ j730 x728 x729 = some x535) (by kernel_rfl) ?_ (fun a w hI => ?_)
  · refine EW.seq (x := C65.r.r.l.l) (y := C65.r.r.l.r) (by kernel_rfl) ?_
    refine EW.region (id := 2) (ops := C65.r.r.l.l.ops) (by kernel_rfl) ?_
    refine EL.quick 3 [0, 1, 2, 7, 8, 11, 12, 13] [(0, .slice A238 l237.length C239), (1, .int .i64 a240), (2, .int .i64 a241), (7, .int .i64 0), (8, .int .i64 0), (11, .slice A238 l237.length C239), (12, .int .i64 (l237.length : Int)), (13, .int .i64 0)] (by kernel_rfl) ?_
    refine EL.done (by kernel_rfl) ?_
    refine EQ.code ?_
    refine EW.block (x := C65.r.r.l.r.l) (id := 0) (by kernel_rfl) ?_
    refine EW.loop (x := C65.r.r.l.r.l.l) (fun n a w => ∃ x760 : Int, ∃ x761 : Int, ∃ x762 : Int, Sat 40 [(0, .slice A238 l237.length C239), (1, .int .i64 a240), (2, .int .i64 a241), (7, .int .i64 x760), (8, .int .i64 x761), (11, .slice A238 l237.length C239), (12, .int .i64 (l237.length : Int)), (13, .int .i64 x762)] a ∧ St B w (os) (Ro.sl (Kd.int .i64) A238 C239 l237 :: rs) ∧ table_ahead.l0 K l237 a240 a241 j730 n x760 x761 x762 = some x535) K (by kernel_rfl) ?_ (fun n a w hI => ?_)
    · refine EQ.keep [0, 1, 2, 7, 8, 11, 12, 13] [(0, .slice A238 l237.length C239), (1, .int .i64 a240), (2, .int .i64 a241), (7, .int .i64 0), (8, .int .i64 0), (11, .slice A238 l237.length C239), (12, .int .i64 (l237.length : Int)), (13, .int .i64 0)] (by kernel_rfl) ?_
      exact fun a ha => ⟨0, 0, 0, ha, (hS.re [] [] rfl (sub_cons 0 rfl (sub_tail (sub_self)))), H⟩
    · obtain ⟨x760, x761, x762, ha, hS, H⟩ := hI
      obtain _ | n := n
      · simp [table_ahead.l0] at H
      rw [table_ahead.l0.eq_2] at H
      refine EW.at ?_ a ha
      clear ha a
      refine EW.seq (x := C65.r.r.l.r.l.l.l) (y := C65.r.r.l.r.l.l.r) (by kernel_rfl) ?_
      refine EW.region (id := 3) (ops := C65.r.r.l.r.l.l.l.ops) (by kernel_rfl) ?_
      refine EL.quick 1 [0, 1, 2, 7, 8, 11, 12, 13, 14] [(0, .slice A238 l237.length C239), (1, .int .i64 a240), (2, .int .i64 a241), (7, .int .i64 x760), (8, .int .i64 x761), (11, .slice A238 l237.length C239), (12, .int .i64 (l237.length : Int)), (13, .int .i64 x762), (14, .bool (decide (x762 < (l237.length : Int))))] (by kernel_rfl) ?_
      refine EL.done (by kernel_rfl) ?_
      refine EQ.code ?_
      refine EW.seq (x := C65.r.r.l.r.l.l.r.l) (y := C65.r.r.l.r.l.l.r.r) (by kernel_rfl) ?_
      refine EW.condP (o := (.tmp 14)) (x := C65.r.r.l.r.l.l.r.l.l) (y := C65.r.r.l.r.l.l.r.l.r) (x762 < (l237.length : Int)) (by kernel_rfl) (by kernel_rfl) (fun h799 => ?_) (fun h799 => ?_)
      · rw [if_pos h799] at H
        refine EW.skip (by kernel_rfl) ?_
        refine EQ.code ?_
        obtain ⟨j818, hj818, H⟩ := lt_out H
        refine EW.cut (x := C65.r.r.l.r.l.l.r.r.l) (y := C65.r.r.l.r.l.l.r.r.r) (fun a w => ∃ x816 : Int, ∃ x817 : Int, Sat 40 [(0, .slice A238 l237.length C239), (1, .int .i64 a240), (2, .int .i64 a241), (7, .int .i64 x816), (8, .int .i64 x817), (11, .slice A238 l237.length C239), (12, .int .i64 (l237.length : Int)), (13, .int .i64 x762)] a ∧ St B w (os) (Ro.sl (Kd.int .i64) A238 C239 l237 :: rs) ∧ j818 x816 x817 = some x535) (by kernel_rfl) ?_ (fun a w hI => ?_)
        · refine EW.block (x := C65.r.r.l.r.l.l.r.r.l.l) (id := 1) (by kernel_rfl) ?_
          refine EW.seq (x := C65.r.r.l.r.l.l.r.r.l.l.l) (y := C65.r.r.l.r.l.l.r.r.l.l.r) (by kernel_rfl) ?_
          refine EW.region (id := 4) (ops := C65.r.r.l.r.l.l.r.r.l.l.l.ops) (by kernel_rfl) ?_
          refine EL.quick 1 [0, 1, 2, 7, 8, 11, 12, 13, 15] [(0, .slice A238 l237.length C239), (1, .int .i64 a240), (2, .int .i64 a241), (7, .int .i64 x760), (8, .int .i64 x761), (11, .slice A238 l237.length C239), (12, .int .i64 (l237.length : Int)), (13, .int .i64 x762), (15, .int .i64 x762)] (by kernel_rfl) ?_
          obtain ⟨h821, H⟩ := ite_in H
          obtain ⟨ad822, rfl⟩ := St.rd_some hS (Rd.ro 0 rfl) h821 h799
          refine EL.of (EO.Y (YO.idx 24 1 ad822 l237.length C239 .i64 x762 16 (by kernel_rfl) (by kernel_rfl) (by kernel_rfl) (by kernel_rfl) h821 h799) ?_)
          refine EL.of (EO.Y (YO.loadEl hS (Kd.int .i64) ad822 C239 l237 (Rd.ro 0 rfl) 0 (encI .i64) encI_of x762 h821 h799 3 1 0 1 rfl (.int .i64 (l237.getD x762.toNat 0)) 17 (by kernel_rfl) (by kernel_rfl) (by kernel_rfl) (by kernel_rfl)) ?_)
          refine EL.quick 2 [0, 1, 2, 7, 8, 9, 10, 11, 12, 13] [(0, .slice (some ad822) l237.length C239), (1, .int .i64 a240), (2, .int .i64 a241), (7, .int .i64 x760), (8, .int .i64 x761), (9, .int .i64 x762), (10, .int .i64 (l237.getD x762.toNat 0)), (11, .slice (some ad822) l237.length C239), (12, .int .i64 (l237.length : Int)), (13, .int .i64 x762)] (by kernel_rfl) ?_
          refine EL.done (by kernel_rfl) ?_
          refine EQ.code ?_
          refine EW.seq (x := C65.r.r.l.r.l.l.r.r.l.l.r.l) (y := C65.r.r.l.r.l.l.r.r.l.l.r.r) (by kernel_rfl) ?_
          refine EW.region (id := 5) (ops := C65.r.r.l.r.l.l.r.r.l.l.r.l.ops) (by kernel_rfl) ?_
          refine EL.quick 3 [0, 1, 2, 7, 8, 9, 11, 12, 13, 20] [(0, .slice (some ad822) l237.length C239), (1, .int .i64 a240), (2, .int .i64 a241), (7, .int .i64 x760), (8, .int .i64 x761), (9, .int .i64 x762), (11, .slice (some ad822) l237.length C239), (12, .int .i64 (l237.length : Int)), (13, .int .i64 x762), (20, .bool (decide ((l237.getD x762.toNat 0) = a240)))] (by kernel_rfl) ?_
          refine EL.done (by kernel_rfl) ?_
          refine EQ.code ?_
          refine EW.condP (o := (.tmp 20)) (x := C65.r.r.l.r.l.l.r.r.l.l.r.r.l) (y := C65.r.r.l.r.l.l.r.r.l.l.r.r.r) ((l237.getD x762.toNat 0) = a240) (by kernel_rfl) (by kernel_rfl) (fun h823 => ?_) (fun h823 => ?_)
          · rw [if_pos h823] at H
            refine EW.seq (x := C65.r.r.l.r.l.l.r.r.l.l.r.r.l.l) (y := C65.r.r.l.r.l.l.r.r.l.l.r.r.l.r) (by kernel_rfl) ?_
            refine EW.region (id := 6) (ops := C65.r.r.l.r.l.l.r.r.l.l.r.r.l.l.ops) (by kernel_rfl) ?_
            refine EL.quick 3 [0, 1, 2, 7, 8, 9, 11, 12, 13] [(0, .slice (some ad822) l237.length C239), (1, .int .i64 a240), (2, .int .i64 a241), (7, .int .i64 (IntKind.i64.wrap (x760 + 1))), (8, .int .i64 x761), (9, .int .i64 x762), (11, .slice (some ad822) l237.length C239), (12, .int .i64 (l237.length : Int)), (13, .int .i64 x762)] (by kernel_rfl) ?_
            refine EL.done (by kernel_rfl) ?_
            refine EQ.code ?_
            refine EW.seq (x := C65.r.r.l.r.l.l.r.r.l.l.r.r.l.r.l) (y := C65.r.r.l.r.l.l.r.r.l.l.r.r.l.r.r) (by kernel_rfl) ?_
            refine EW.region (id := 7) (ops := C65.r.r.l.r.l.l.r.r.l.l.r.r.l.r.l.ops) (by kernel_rfl) ?_
            refine EL.quick 4 [0, 1, 2, 7, 8, 11, 12, 13, 23, 24, 26] [(0, .slice (some ad822) l237.length C239), (1, .int .i64 a240), (2, .int .i64 a241), (7, .int .i64 (IntKind.i64.wrap (x760 + 1))), (8, .int .i64 x761), (11, .slice (some ad822) l237.length C239), (12, .int .i64 (l237.length : Int)), (13, .int .i64 x762), (23, .int .i64 x762), (24, .int .i64 a241), (26, .int .i64 (l237.length : Int))] (by kernel_rfl) ?_
            obtain ⟨h825, H⟩ := ite_out H
            refine EL.of (EO.Y (YO.div .rem .i64 a241 (l237.length : Int) (Int.tmod a241 (l237.length : Int)) 27 (by kernel_rfl) (by kernel_rfl) (by kernel_rfl) h825 (by first | exact .inl ⟨rfl, rfl⟩ | exact .inr ⟨rfl, rfl⟩)) ?_)
            refine EL.quick 1 [0, 1, 2, 7, 8, 11, 12, 13, 28] [(0, .slice (some ad822) l237.length C239), (1, .int .i64 a240), (2, .int .i64 a241), (7, .int .i64 (IntKind.i64.wrap (x760 + 1))), (8, .int .i64 x761), (11, .slice (some ad822) l237.length C239), (12, .int .i64 (l237.length : Int)), (13, .int .i64 x762), (28, .bool (decide (x762 < (Int.tmod a241 (l237.length : Int)))))] (by kernel_rfl) ?_
            refine EL.done (by kernel_rfl) ?_
            refine EQ.code ?_
            refine EW.condP (o := (.tmp 28)) (x := C65.r.r.l.r.l.l.r.r.l.l.r.r.l.r.r.l) (y := C65.r.r.l.r.l.l.r.r.l.l.r.r.l.r.r.r) (x762 < (Int.tmod a241 (l237.length : Int))) (by kernel_rfl) (by kernel_rfl) (fun h826 => ?_) (fun h826 => ?_)
            · rw [if_pos h826] at H
              refine EW.region (id := 8) (ops := C65.r.r.l.r.l.l.r.r.l.l.r.r.l.r.r.l.ops) (by kernel_rfl) ?_
              refine EL.quick 3 [0, 1, 2, 7, 8, 11, 12, 13] [(0, .slice (some ad822) l237.length C239), (1, .int .i64 a240), (2, .int .i64 a241), (7, .int .i64 (IntKind.i64.wrap (x760 + 1))), (8, .int .i64 (IntKind.i64.wrap (x761 + 1))), (11, .slice (some ad822) l237.length C239), (12, .int .i64 (l237.length : Int)), (13, .int .i64 x762)] (by kernel_rfl) ?_
              refine EL.done (by kernel_rfl) ?_
              refine EQ.pop ?_
              refine EQ.to ?_
              refine EQ.keep [0, 1, 2, 7, 8, 11, 12, 13] [(0, .slice (some ad822) l237.length C239), (1, .int .i64 a240), (2, .int .i64 a241), (7, .int .i64 (IntKind.i64.wrap (x760 + 1))), (8, .int .i64 (IntKind.i64.wrap (x761 + 1))), (11, .slice (some ad822) l237.length C239), (12, .int .i64 (l237.length : Int)), (13, .int .i64 x762)] (by kernel_rfl) ?_
              exact fun a ha => ⟨IntKind.i64.wrap (x760 + 1), IntKind.i64.wrap (x761 + 1), ha, (hS.re [] [] rfl (sub_cons 0 rfl (sub_tail (sub_self)))), H⟩
            · rw [if_neg h826] at H
              refine EW.skip (by kernel_rfl) ?_
              refine EQ.pop ?_
              refine EQ.to ?_
              refine EQ.keep [0, 1, 2, 7, 8, 11, 12, 13] [(0, .slice (some ad822) l237.length C239), (1, .int .i64 a240), (2, .int .i64 a241), (7, .int .i64 (IntKind.i64.wrap (x760 + 1))), (8, .int .i64 x761), (11, .slice (some ad822) l237.length C239), (12, .int .i64 (l237.length : Int)), (13, .int .i64 x762)] (by kernel_rfl) ?_
              exact fun a ha => ⟨IntKind.i64.wrap (x760 + 1), x761, ha, (hS.re [] [] rfl (sub_cons 0 rfl (sub_tail (sub_self)))), H⟩
          · rw [if_neg h823] at H
            refine EW.skip (by kernel_rfl) ?_
            refine EQ.pop ?_
            refine EQ.to ?_
            refine EQ.keep [0, 1, 2, 7, 8, 11, 12, 13] [(0, .slice (some ad822) l237.length C239), (1, .int .i64 a240), (2, .int .i64 a241), (7, .int .i64 x760), (8, .int .i64 x761), (11, .slice (some ad822) l237.length C239), (12, .int .i64 (l237.length : Int)), (13, .int .i64 x762)] (by kernel_rfl) ?_
            exact fun a ha => ⟨x760, x761, ha, (hS.re [] [] rfl (sub_cons 0 rfl (sub_tail (sub_self)))), H⟩
        · obtain ⟨x816, x817, ha, hS, H⟩ := hI
          rw [hj818] at H
          (try dsimp only at H)
          refine EW.at ?_ a ha
          clear ha a
          refine EW.region (id := 9) (ops := C65.r.r.l.r.l.l.r.r.r.ops) (by kernel_rfl) ?_
          refine EL.quick 2 [0, 1, 2, 7, 8, 11, 12, 13] [(0, .slice A238 l237.length C239), (1, .int .i64 a240), (2, .int .i64 a241), (7, .int .i64 x816), (8, .int .i64 x817), (11, .slice A238 l237.length C239), (12, .int .i64 (l237.length : Int)), (13, .int .i64 (IntKind.i64.wrap (x762 + 1)))] (by kernel_rfl) ?_
          refine EL.done (by kernel_rfl) ?_
          refine EQ.to ?_
          refine EQ.keep [0, 1, 2, 7, 8, 11, 12, 13] [(0, .slice A238 l237.length C239), (1, .int .i64 a240), (2, .int .i64 a241), (7, .int .i64 x816), (8, .int .i64 x817), (11, .slice A238 l237.length C239), (12, .int .i64 (l237.length : Int)), (13, .int .i64 (IntKind.i64.wrap (x762 + 1)))] (by kernel_rfl) ?_
          exact fun a ha => ⟨n, Nat.lt_succ_self n, x816, x817, IntKind.i64.wrap (x762 + 1), ha, (hS.re [] [] rfl (sub_cons 0 rfl (sub_tail (sub_self)))), H⟩
      · rw [if_neg h799] at H
        refine EW.exit (id := 0) (by kernel_rfl) ?_
        refine EQ.exitCode ?_
        refine EQ.exitTo ?_
        refine EQ.exitHere ?_
        refine EQ.to ?_
        refine EQ.keep [0, 2, 7, 8] [(0, .slice A238 l237.length C239), (2, .int .i64 a241), (7, .int .i64 x760), (8, .int .i64 x761)] (by kernel_rfl) ?_
        exact fun a ha => ⟨x760, x761, ha, (hS.re [] [] rfl (sub_cons 0 rfl (sub_tail (sub_self)))), H⟩
  · obtain ⟨x728, x729, ha, hS, H⟩ := hI
    rw [hj730] at H
    (try dsimp only at H)
    refine EW.at ?_ a ha
    clear ha a
    refine EW.seq (x := C65.r.r.r.l) (y := C65.r.r.r.r) (by kernel_rfl) ?_
    refine EW.region (id := 10) (ops := C65.r.r.r.l.ops) (by kernel_rfl) ?_
    refine EL.quick 3 [7, 8, 32, 34] [(7, .int .i64 x728), (8, .int .i64 x729), (32, .int .i64 a241), (34, .int .i64 (l237.length : Int))] (by kernel_rfl) ?_
    obtain ⟨h827, H⟩ := ite_out H
    refine EL.of (EO.Y (YO.div .quo .i64 a241 (l237.length : Int) (IntKind.i64.wrap (Int.tdiv a241 (l237.length : Int))) 35 (by kernel_rfl) (by kernel_rfl) (by kernel_rfl) h827 (by first | exact .inl ⟨rfl, rfl⟩ | exact .inr ⟨rfl, rfl⟩)) ?_)
    refine EL.quick 5 [6] [(6, .int .i64 (IntKind.i64.wrap ((IntKind.i64.wrap ((IntKind.i64.wrap (Int.tdiv a241 (l237.length : Int))) * x728)) + x729)))] (by kernel_rfl) ?_
    obtain ⟨y828, hy828, H⟩ := lt_out H
    refine EL.keep [6] [(6, .int .i64 (IntKind.i64.wrap ((IntKind.i64.wrap ((IntKind.i64.wrap (Int.tdiv a241 (l237.length : Int))) * x728)) + x729)))] (by kernel_rfl) ?_
    refine EL.as' [(6, .int .i64 y828)] (by subst hy828; rfl) ?_
    refine EL.done (by kernel_rfl) ?_
    refine EQ.code ?_
    refine EW.ret (by kernel_rfl) ?_
    obtain rfl := Option.some.inj H
    exact EQ.leave (.int .i64 y828) (by kernel_rfl) ⟨_, rfl, rfl, (hS.re [] [] rfl (sub_self))⟩

/-! ### confidant/table.Slots: function 40 -/
def table_Slots.f (K : Nat) (l219 : List Int) (a222 : Int) (a223 : Int) (a224 : Int) : Option Int := lt (fun (x842 : Bool) => (if x842 = true then (some 0) else (b1 (table_ahead.f K l219 a222 (mx a224 0)) fun (t846 : Int) => (b1 (table_ahead.f K l219 a222 (mx a223 0)) fun (t848 : Int) => (some (IntKind.i64.wrap (t846 - t848))))))) fun j843 => (if (l219.length : Int) = 0 then (j843 true) else (j843 (decide ((mx a223 0) ≥ (mx a224 0)))))
set_option maxRecDepth 100000 in
theorem table_Slots.calls {K : Nat} {l219 : List Int} {a222 : Int} {a223 : Int} {a224 : Int} {A220 : Option Addr} {C221 : Nat} {x833 : Int} {B w : World} {os : List Ass} {rs : List Ro} (H : table_Slots.f K l219 a222 a223 a224 = some x833) (hS : St B w (os) (Ro.sl (Kd.int .i64) A220 C221 l219 :: rs)) :
    Calls Try.prog 40 [.slice A220 l219.length C221, .int .i64 a222, .int .i64 a223, .int .i64 a224].toArray w (fun en w' => ∃ v, en = .returned v ∧ v = .int .i64 x833 ∧ St B w' (os) (Ro.sl (Kd.int .i64) A220 C221 l219 :: rs)) := by
  unfold table_Slots.f at H
  refine calls_of_EW (args := [.slice A220 l219.length C221, .int .i64 a222, .int .i64 a223, .int .i64 a224]) (c := C40) 30 Try.func40 (by kernel_rfl) (by kernel_rfl) (by kernel_rfl) ?_
  refine EW.seq (x := C40.l) (y := C40.r) (by kernel_rfl) ?_
  refine EW.region (id := 0) (ops := C40.l.ops) (by kernel_rfl) ?_
  refine EL.quick 1 [0, 1, 2, 3] [(0, .slice A220 l219.length C221), (1, .int .i64 a222), (2, .int .i64 a223), (3, .int .i64 a224)] (by kernel_rfl) ?_
  refine EL.done (by kernel_rfl) ?_
  refine EQ.code ?_
  refine EW.seq (x := C40.r.l) (y := C40.r.r) (by kernel_rfl) ?_
  refine EW.region (id := 1) (ops := C40.r.l.ops) (by kernel_rfl) ?_
  refine EL.quick 6 [0, 1, 2, 3] [(0, .slice A220 l219.length C221), (1, .int .i64 a222), (2, .int .i64 (mx a223 0)), (3, .int .i64 (mx a224 0))] (by kernel_rfl) ?_
  refine EL.done (by kernel_rfl) ?_
  refine EQ.code ?_
  refine EW.seq (x := C40.r.r.l) (y := C40.r.r.r) (by kernel_rfl) ?_
  obtain ⟨j843, hj843, H⟩ := lt_out H
  refine EW.cut (x := C40.r.r.l.l) (y := C40.r.r.l.r) (fun a w => ∃ x842 : Bool, Sat 30 [(0, .slice A220 l219.length C221), (1, .int .i64 a222), (2, .int .i64 (mx a223 0)), (3, .int .i64 (mx a224 0)), (20, .bool (x842))] a ∧ St B w (os) (Ro.sl (Kd.int .i64) A220 C221 l219 :: rs) ∧ j843 x842 = some x833) (by kernel_rfl) ?_ (fun a w hI => ?_)
  · refine EW.region (id := 2) (ops := C40.r.r.l.l.ops) (by kernel_rfl) ?_
    refine EL.quick 4 [0, 1, 2, 3, 16] [(0, .slice A220 l219.length C221), (1, .int .i64 a222), (2, .int .i64 (mx a223 0)), (3, .int .i64 (mx a224 0)), (16, .bool (decide ((l219.length : Int) = 0)))] (by kernel_rfl) ?_
    by_cases h844 : (l219.length : Int) = 0
    · rw [if_pos h844] at H
      refine EL.keep [0, 1, 2, 3, 16] [(0, .slice A220 l219.length C221), (1, .int .i64 a222), (2, .int .i64 (mx a223 0)), (3, .int .i64 (mx a224 0)), (16, .bool (decide ((l219.length : Int) = 0)))] (by kernel_rfl) ?_
      refine EL.as' [(0, .slice A220 l219.length C221), (1, .int .i64 a222), (2, .int .i64 (mx a223 0)), (3, .int .i64 (mx a224 0)), (16, .bool (true))] (by simp only [dec_t h844, Bool.not_true, Bool.not_false]) ?_
      refine EL.quick 4 [0, 1, 2, 3, 20] [(0, .slice A220 l219.length C221), (1, .int .i64 a222), (2, .int .i64 (mx a223 0)), (3, .int .i64 (mx a224 0)), (20, .bool (true))] (by kernel_rfl) ?_
      refine EL.done (by kernel_rfl) ?_
      refine EQ.to ?_
      refine EQ.keep [0, 1, 2, 3, 20] [(0, .slice A220 l219.length C221), (1, .int .i64 a222), (2, .int .i64 (mx a223 0)), (3, .int .i64 (mx a224 0)), (20, .bool (true))] (by kernel_rfl) ?_
      exact fun a ha => ⟨true, ha, (hS.re [] [] rfl (sub_cons 0 rfl (sub_tail (sub_self)))), H⟩
    · rw [if_neg h844] at H
      refine EL.keep [0, 1, 2, 3, 16] [(0, .slice A220 l219.length C221), (1, .int .i64 a222), (2, .int .i64 (mx a223 0)), (3, .int .i64 (mx a224 0)), (16, .bool (decide ((l219.length : Int) = 0)))] (by kernel_rfl) ?_
      refine EL.as' [(0, .slice A220 l219.length C221), (1, .int .i64 a222), (2, .int .i64 (mx a223 0)), (3, .int .i64 (mx a224 0)), (16, .bool (false))] (by simp only [dec_f h844, Bool.not_true, Bool.not_false]) ?_
      refine EL.quick 4 [0, 1, 2, 3, 20] [(0, .slice A220 l219.length C221), (1, .int .i64 a222), (2, .int .i64 (mx a223 0)), (3, .int .i64 (mx a224 0)), (20, .bool (decide ((mx a223 0) ≥ (mx a224 0))))] (by kernel_rfl) ?_
      refine EL.done (by kernel_rfl) ?_
      refine EQ.to ?_
      refine EQ.keep [0, 1, 2, 3, 20] [(0, .slice A220 l219.length C221), (1, .int .i64 a222), (2, .int .i64 (mx a223 0)), (3, .int .i64 (mx a224 0)), (20, .bool (decide ((mx a223 0) ≥ (mx a224 0))))] (by kernel_rfl) ?_
      exact fun a ha => ⟨decide ((mx a223 0) ≥ (mx a224 0)), ha, (hS.re [] [] rfl (sub_cons 0 rfl (sub_tail (sub_self)))), H⟩
  · obtain ⟨x842, ha, hS, H⟩ := hI
    rw [hj843] at H
    (try dsimp only at H)
    refine EW.at ?_ a ha
    clear ha a
    refine EW.condP' (o := (.tmp 20)) (x := C40.r.r.l.r.l) (y := C40.r.r.l.r.r) (x842) (by kernel_rfl) (by kernel_rfl) (fun h845 => ?_) (fun h845 => ?_)
    · rw [if_pos h845] at H
      refine EW.seq (x := C40.r.r.l.r.l.l) (y := C40.r.r.l.r.l.r) (by kernel_rfl) ?_
      refine EW.region (id := 3) (ops := C40.r.r.l.r.l.l.ops) (by kernel_rfl) ?_
      refine EL.quick 1 [8] [(8, .int .i64 0)] (by kernel_rfl) ?_
      refine EL.done (by kernel_rfl) ?_
      refine EQ.code ?_
      refine EW.ret (by kernel_rfl) ?_
      refine EQ.ret ?_
      obtain rfl := Option.some.inj H
      exact EQ.leave (.int .i64 0) (by kernel_rfl) ⟨_, rfl, rfl, (hS.re [] [] rfl (sub_self))⟩
    · rw [if_neg h845] at H
      refine EW.skip (by kernel_rfl) ?_
      refine EQ.code ?_
      refine EW.seq (x := C40.r.r.r.l) (y := C40.r.r.r.r) (by kernel_rfl) ?_
      refine EW.region (id := 4) (ops := C40.r.r.r.l.ops) (by kernel_rfl) ?_
      refine EL.quick 3 [0, 1, 2, 21, 22, 23] [(0, .slice A220 l219.length C221), (1, .int .i64 a222), (2, .int .i64 (mx a223 0)), (21, .slice A220 l219.length C221), (22, .int .i64 a222), (23, .int .i64 (mx a224 0))] (by kernel_rfl) ?_
      have hS : St B _ (os) (Ro.sl (Kd.int .i64) A220 C221 l219 :: Ro.sl (Kd.int .i64) A220 C221 l219 :: rs) := hS.re [] [] rfl (sub_cons 0 rfl sub_self)
      obtain ⟨t846, hc847, H⟩ := b1_out H
      refine EL.of (EO.callD 65 [.slice A220 l219.length C221, .int .i64 a222, .int .i64 (mx a224 0)] _ 24 (by kernel_rfl) (by kernel_rfl) (by kernel_rfl) (table_ahead.calls hc847 hS) ?_)
      rintro v w ⟨rfl, hS⟩
      refine EL.quick 3 [24, 25, 26, 27] [(24, .int .i64 t846), (25, .slice A220 l219.length C221), (26, .int .i64 a222), (27, .int .i64 (mx a223 0))] (by kernel_rfl) ?_
      have hS : St B _ (os) (Ro.sl (Kd.int .i64) A220 C221 l219 :: Ro.sl (Kd.int .i64) A220 C221 l219 :: Ro.sl (Kd.int .i64) A220 C221 l219 :: rs) := hS.re [] [] rfl (sub_cons 0 rfl sub_self)
      obtain ⟨t848, hc849, H⟩ := b1_out H
      refine EL.of (EO.callD 65 [.slice A220 l219.length C221, .int .i64 a222, .int .i64 (mx a223 0)] _ 28 (by kernel_rfl) (by kernel_rfl) (by kernel_rfl) (table_ahead.calls hc849 hS) ?_)
      rintro v w ⟨rfl, hS⟩
      refine EL.quick 2 [8] [(8, .int .i64 (IntKind.i64.wrap (t846 - t848)))] (by kernel_rfl) ?_
      refine EL.done (by kernel_rfl) ?_
      refine EQ.code ?_
      refine EW.ret (by kernel_rfl) ?_
      obtain rfl := Option.some.inj H
      exact EQ.leave (.int .i64 (IntKind.i64.wrap (t846 - t848))) (by kernel_rfl) ⟨_, rfl, rfl, (hS.re [] [] rfl (sub_tail (sub_tail (sub_self))))⟩

/-! ### confidant/table.Right$1: function 63 -/
def table_Right_1.f (K : Nat) (a864 : Int) (a867 : Int) : Option (Int × Bool) := if a864 < 0 then (some (a867, true)) else (some (a867, decide (a864 ≥ a867)))
set_option maxRecDepth 100000 in
theorem table_Right_1.calls {K : Nat} {a864 : Int} {a867 : Int} {g866 : Nat} {x869 : Int} {x870 : Bool} {B w : World} {os : List Ass} {rs : List Ro} (H : table_Right_1.f K a864 a867 = some (x869, x870)) (hS : St B w (Ass.box 3 g866 [.int .i64 a867] :: os) (rs)) :
    Calls Try.prog 63 [.int .i64 a864, .pointer (some ⟨g866, 0, none⟩)].toArray w (fun en w' => ∃ v, en = .returned v ∧ v = .bool (x870) ∧ St B w' (Ass.box 3 g866 [.int .i64 x869] :: os) (rs)) := by
  unfold table_Right_1.f at H
  refine calls_of_EW (args := [.int .i64 a864, .pointer (some ⟨g866, 0, none⟩)]) (c := C63) 11 Try.func63 (by kernel_rfl) (by kernel_rfl) (by kernel_rfl) ?_
  refine EW.seq (x := C63.l) (y := C63.r) (by kernel_rfl) ?_
  refine EW.region (id := 0) (ops := C63.l.ops) (by kernel_rfl) ?_
  refine EL.quick 1 [0, 1] [(0, .int .i64 a864), (1, .pointer (some ⟨g866, 0, none⟩))] (by kernel_rfl) ?_
  refine EL.done (by kernel_rfl) ?_
  refine EQ.code ?_
  refine EW.seq (x := C63.r.l) (y := C63.r.r) (by kernel_rfl) ?_
  refine EW.region (id := 1) (ops := C63.r.l.ops) (by kernel_rfl) ?_
  refine EL.quick 3 [0, 1, 6] [(0, .int .i64 a864), (1, .pointer (some ⟨g866, 0, none⟩)), (6, .bool (decide (a864 < 0)))] (by kernel_rfl) ?_
  by_cases h871 : a864 < 0
  · rw [if_pos h871] at H
    refine EL.keep [0, 1, 6] [(0, .int .i64 a864), (1, .pointer (some ⟨g866, 0, none⟩)), (6, .bool (decide (a864 < 0)))] (by kernel_rfl) ?_
    refine EL.as' [(0, .int .i64 a864), (1, .pointer (some ⟨g866, 0, none⟩)), (6, .bool (true))] (by simp only [dec_t h871, Bool.not_true, Bool.not_false]) ?_
    refine EL.quick 5 [3] [(3, .bool (true))] (by kernel_rfl) ?_
    refine EL.done (by kernel_rfl) ?_
    refine EQ.code ?_
    refine EW.ret (by kernel_rfl) ?_
    simp only [Option.some.injEq, Prod.mk.injEq] at H
    obtain ⟨rfl, rfl⟩ := H
    exact EQ.leave (.bool (true)) (by kernel_rfl) ⟨_, rfl, rfl, (hS.re [0] [] rfl (sub_self))⟩
  · rw [if_neg h871] at H
    refine EL.keep [0, 1, 6] [(0, .int .i64 a864), (1, .pointer (some ⟨g866, 0, none⟩)), (6, .bool (decide (a864 < 0)))] (by kernel_rfl) ?_
    refine EL.as' [(0, .int .i64 a864), (1, .pointer (some ⟨g866, 0, none⟩)), (6, .bool (false))] (by simp only [dec_f h871, Bool.not_true, Bool.not_false]) ?_
    refine EL.quick 1 [1, 6, 7] [(1, .pointer (some ⟨g866, 0, none⟩)), (6, .bool (false)), (7, .int .i64 a864)] (by kernel_rfl) ?_
    refine EL.of (EO.Y (YO.loadBox hS 0 rfl 3 0 1 (.int .i64 a867) 8 (by kernel_rfl) (by kernel_rfl) (by kernel_rfl) (by kernel_rfl)) ?_)
    refine EL.quick 3 [3] [(3, .bool (decide (a864 ≥ a867)))] (by kernel_rfl) ?_
    refine EL.done (by kernel_rfl) ?_
    refine EQ.code ?_
    refine EW.ret (by kernel_rfl) ?_
    simp only [Option.some.injEq, Prod.mk.injEq] at H
    obtain ⟨rfl, rfl⟩ := H
    exact EQ.leave (.bool (decide (a864 ≥ a867))) (by kernel_rfl) ⟨_, rfl, rfl, (hS.re [0] [] rfl (sub_self))⟩

/-! ### confidant/table.Right: function 32 -/
def table_Right.l0 (K : Nat) (l853 : List Int) (j1743 : Int → Int → Option Bool) : Nat → Int → Int → Option Bool
  | 0, _, _ => none
  | n + 1, x1768, x1769 => if x1769 < (l853.length : Int) then (if 0 ≤ x1769 then (b2 (table_Right_1.f K (l853.getD x1769.toNat 0) x1768) fun (t1818 : Int) (t1819 : Bool) => (if t1819 = true then (j1743 t1818 x1769) else (table_Right.l0 K l853 j1743 n t1818 (IntKind.i64.wrap (x1769 + 1))))) else none) else (j1743 x1768 (-1))
def table_Right.f (K : Nat) (l853 : List Int) (a856 : Int) : Option Bool := if (l853.length : Int) ≥ 1 then (if (l853.length : Int) ≤ 64 then (lt (fun (x1741 : Int) (x1742 : Int) => (some (!(decide (x1742 ≥ 0))))) fun j1743 => (table_Right.l0 K l853 j1743 K a856 0)) else (some false)) else (some false)
set_option maxRecDepth 100000 in
theorem table_Right.calls {K : Nat} {l853 : List Int} {a856 : Int} {A854 : Option Addr} {C855 : Nat} {x1343 : Bool} {B w : World} {os : List Ass} {rs : List Ro} (H : table_Right.f K l853 a856 = some x1343) (hS : St B w (os) (Ro.sl (Kd.int .i64) A854 C855 l853 :: rs)) :
    Calls Try.prog 32 [.slice A854 l853.length C855, .int .i64 a856].toArray w (fun en w' => ∃ v, en = .returned v ∧ v = .bool (x1343) ∧ St B w' (os) (Ro.sl (Kd.int .i64) A854 C855 l853 :: rs)) := by
  unfold table_Right.f at H
  refine calls_of_EW (args := [.slice A854 l853.length C855, .int .i64 a856]) (c := C32) 19 Try.func32 (by kernel_rfl) (by kernel_rfl) (by kernel_rfl) ?_
  refine EW.seq (x := C32.l) (y := C32.r) (by kernel_rfl) ?_
  refine EW.region (id := 0) (ops := C32.l.ops) (by kernel_rfl) ?_
  refine EL.of (EO.box hS 3 (.int .i64 a856) [.int .i64 a856] 3 (by kernel_rfl) (by kernel_rfl) (by kernel_rfl) (by first | rfl | kernel_rfl) ?_)
  intro g1345 w hS
  refine EL.quick 1 [0, 3] [(0, .slice A854 l853.length C855), (3, .pointer (some ⟨g1345, 0, none⟩))] (by kernel_rfl) ?_
  refine EL.done (by kernel_rfl) ?_
  refine EQ.code ?_
  refine EW.seq (x := C32.r.l) (y := C32.r.r) (by kernel_rfl) ?_
  refine EW.region (id := 1) (ops := C32.r.l.ops) (by kernel_rfl) ?_
  refine EL.quick 4 [0, 3, 8] [(0, .slice A854 l853.length C855), (3, .pointer (some ⟨g1345, 0, none⟩)), (8, .bool (decide ((l853.length : Int) ≥ 1)))] (by kernel_rfl) ?_
  by_cases h1346 : (l853.length : Int) ≥ 1
  · rw [if_pos h1346] at H
    refine EL.keep [0, 3, 8] [(0, .slice A854 l853.length C855), (3, .pointer (some ⟨g1345, 0, none⟩)), (8, .bool (decide ((l853.length : Int) ≥ 1)))] (by kernel_rfl) ?_
    refine EL.as' [(0, .slice A854 l853.length C855), (3, .pointer (some ⟨g1345, 0, none⟩)), (8, .bool (true))] (by simp only [dec_t h1346, Bool.not_true, Bool.not_false]) ?_
    refine EL.quick 5 [0, 3, 13] [(0, .slice A854 l853.length C855), (3, .pointer (some ⟨g1345, 0, none⟩)), (13, .bool (decide ((l853.length : Int) ≤ 64)))] (by kernel_rfl) ?_
    by_cases h1347 : (l853.length : Int) ≤ 64
    · rw [if_pos h1347] at H
      refine EL.keep [0, 3, 13] [(0, .slice A854 l853.length C855), (3, .pointer (some ⟨g1345, 0, none⟩)), (13, .bool (decide ((l853.length : Int) ≤ 64)))] (by kernel_rfl) ?_
      refine EL.as' [(0, .slice A854 l853.length C855), (3, .pointer (some ⟨g1345, 0, none⟩)), (13, .bool (true))] (by simp only [dec_t h1347, Bool.not_true, Bool.not_false]) ?_
      refine EL.quick 2 [13, 14, 15] [(13, .bool (true)), (14, .slice A854 l853.length C855), (15, .func (.func 63) #[] #[.pointer (some ⟨g1345, 0, none⟩)])] (by kernel_rfl) ?_
      refine EL.inline 62 [.slice A854 l853.length C855, .func (.func 63) #[] #[.pointer (some ⟨g1345, 0, none⟩)]] 16 (by kernel_rfl) (by kernel_rfl) (by kernel_rfl) ?_
      refine calls_of_EW (args := [.slice A854 l853.length C855, .func (.func 63) #[] #[.pointer (some ⟨g1345, 0, none⟩)]]) (c := C62) 9 Try.func62 (by kernel_rfl) (by kernel_rfl) (by kernel_rfl) ?_
      refine EW.seq (x := C62.l) (y := C62.r) (by kernel_rfl) ?_
      refine EW.region (id := 0) (ops := C62.l.ops) (by kernel_rfl) ?_
      refine EL.quick 1 [0, 1] [(0, .slice A854 l853.length C855), (1, .func (.func 63) #[] #[.pointer (some ⟨g1345, 0, none⟩)])] (by kernel_rfl) ?_
      refine EL.done (by kernel_rfl) ?_
      refine EQ.code ?_
      refine EW.seq (x := C62.r.l) (y := C62.r.r) (by kernel_rfl) ?_
      refine EW.region (id := 1) (ops := C62.r.l.ops) (by kernel_rfl) ?_
      refine EL.quick 2 [5, 6] [(5, .slice A854 l853.length C855), (6, .func (.func 63) #[] #[.pointer (some ⟨g1345, 0, none⟩)])] (by kernel_rfl) ?_
      obtain ⟨j1743, hj1743, H⟩ := lt_out H
      refine EL.of (EO.callD 78 [.slice A854 l853.length C855, .func (.func 63) #[] #[.pointer (some ⟨g1345, 0, none⟩)]] (fun v w => ∃ x1741 : Int, ∃ x1742 : Int, v = .int .i64 x1742 ∧ St B w (Ass.box 3 g1345 [.int .i64 x1741] :: os) (Ro.sl (Kd.int .i64) A854 C855 l853 :: rs) ∧ j1743 x1741 x1742 = some x1343) 7 (by kernel_rfl) (by kernel_rfl) (by kernel_rfl) ?_ ?_)
      · refine calls_of_EW (args := [.slice A854 l853.length C855, .func (.func 63) #[] #[.pointer (some ⟨g1345, 0, none⟩)]]) (c := C78) 19 Try.func78 (by kernel_rfl) (by kernel_rfl) (by kernel_rfl) ?_
        refine EW.seq (x := C78.l) (y := C78.r) (by kernel_rfl) ?_
        refine EW.region (id := 0) (ops := C78.l.ops) (by kernel_rfl) ?_
        refine EL.quick 1 [0, 1] [(0, .slice A854 l853.length C855), (1, .func (.func 63) #[] #[.pointer (some ⟨g1345, 0, none⟩)])] (by kernel_rfl) ?_
        refine EL.done (by kernel_rfl) ?_
        refine EQ.code ?_
        refine EW.seq (x := C78.r.l) (y := C78.r.r) (by kernel_rfl) ?_
        refine EW.seq (x := C78.r.l.l) (y := C78.r.l.r) (by kernel_rfl) ?_
        refine EW.region (id := 1) (ops := C78.r.l.l.ops) (by kernel_rfl) ?_
        refine EL.quick 3 [0, 1, 7, 8] [(0, .slice A854 l853.length C855), (1, .func (.func 63) #[] #[.pointer (some ⟨g1345, 0, none⟩)]), (7, .int .i64 (l853.length : Int)), (8, .int .i64 0)] (by kernel_rfl) ?_
        refine EL.done (by kernel_rfl) ?_
        refine EQ.code ?_
        refine EW.block (x := C78.r.l.r.l) (id := 0) (by kernel_rfl) ?_
        refine EW.loop (x := C78.r.l.r.l.l) (fun n a w => ∃ x1768 : Int, ∃ x1769 : Int, Sat 19 [(0, .slice A854 l853.length C855), (1, .func (.func 63) #[] #[.pointer (some ⟨g1345, 0, none⟩)]), (7, .int .i64 (l853.length : Int)), (8, .int .i64 x1769)] a ∧ St B w (Ass.box 3 g1345 [.int .i64 x1768] :: os) (Ro.sl (Kd.int .i64) A854 C855 l853 :: rs) ∧ table_Right.l0 K l853 j1743 n x1768 x1769 = some x1343) K (by kernel_rfl) ?_ (fun n a w hI => ?_)
        · refine EQ.keep [0, 1, 7, 8] [(0, .slice A854 l853.length C855), (1, .func (.func 63) #[] #[.pointer (some ⟨g1345, 0, none⟩)]), (7, .int .i64 (l853.length : Int)), (8, .int .i64 0)] (by kernel_rfl) ?_
          exact fun a ha => ⟨a856, 0, ha, (hS.re [0] [] rfl (sub_cons 0 rfl (sub_tail (sub_self)))), H⟩
        · obtain ⟨x1768, x1769, ha, hS, H⟩ := hI
          obtain _ | n := n
          · simp [table_Right.l0] at H
          rw [table_Right.l0.eq_2] at H
          refine EW.at ?_ a ha
          clear ha a
          refine EW.seq (x := C78.r.l.r.l.l.l) (y := C78.r.l.r.l.l.r) (by kernel_rfl) ?_
          refine EW.region (id := 2) (ops := C78.r.l.r.l.l.l.ops) (by kernel_rfl) ?_
          refine EL.quick 1 [0, 1, 7, 8, 9] [(0, .slice A854 l853.length C855), (1, .func (.func 63) #[] #[.pointer (some ⟨g1345, 0, none⟩)]), (7, .int .i64 (l853.length : Int)), (8, .int .i64 x1769), (9, .bool (decide (x1769 < (l853.length : Int))))] (by kernel_rfl) ?_
          refine EL.done (by kernel_rfl) ?_
          refine EQ.code ?_
          refine EW.seq (x := C78.r.l.r.l.l.r.l) (y := C78.r.l.r.l.l.r.r) (by kernel_rfl) ?_
          refine EW.condP (o := (.tmp 9)) (x := C78.r.l.r.l.l.r.l.l) (y := C78.r.l.r.l.l.r.l.r) (x1769 < (l853.length : Int)) (by kernel_rfl) (by kernel_rfl) (fun h1799 => ?_) (fun h1799 => ?_)
          · rw [if_pos h1799] at H
            refine EW.skip (by kernel_rfl) ?_
            refine EQ.code ?_
            refine EW.seq (x := C78.r.l.r.l.l.r.r.l) (y := C78.r.l.r.l.l.r.r.r) (by kernel_rfl) ?_
            refine EW.block (x := C78.r.l.r.l.l.r.r.l.l) (id := 1) (by kernel_rfl) ?_
            refine EW.seq (x := C78.r.l.r.l.l.r.r.l.l.l) (y := C78.r.l.r.l.l.r.r.l.l.r) (by kernel_rfl) ?_
            refine EW.region (id := 3) (ops := C78.r.l.r.l.l.r.r.l.l.l.ops) (by kernel_rfl) ?_
            refine EL.quick 2 [0, 1, 5, 7, 8] [(0, .slice A854 l853.length C855), (1, .func (.func 63) #[] #[.pointer (some ⟨g1345, 0, none⟩)]), (5, .int .i64 x1769), (7, .int .i64 (l853.length : Int)), (8, .int .i64 x1769)] (by kernel_rfl) ?_
            refine EL.done (by kernel_rfl) ?_
            refine EQ.code ?_
            refine EW.seq (x := C78.r.l.r.l.l.r.r.l.l.r.l) (y := C78.r.l.r.l.l.r.r.l.l.r.r) (by kernel_rfl) ?_
            refine EW.region (id := 4) (ops := C78.r.l.r.l.l.r.r.l.l.r.l.ops) (by kernel_rfl) ?_
            refine EL.quick 3 [0, 1, 5, 7, 8, 11, 12, 13] [(0, .slice A854 l853.length C855), (1, .func (.func 63) #[] #[.pointer (some ⟨g1345, 0, none⟩)]), (5, .int .i64 x1769), (7, .int .i64 (l853.length : Int)), (8, .int .i64 x1769), (11, .func (.func 63) #[] #[.pointer (some ⟨g1345, 0, none⟩)]), (12, .slice A854 l853.length C855), (13, .int .i64 x1769)] (by kernel_rfl) ?_
            obtain ⟨h1816, H⟩ := ite_in H
            obtain ⟨ad1817, rfl⟩ := St.rd_some hS (Rd.ro 0 rfl) h1816 h1799
            refine EL.of (EO.Y (YO.idx 24 1 ad1817 l853.length C855 .i64 x1769 14 (by kernel_rfl) (by kernel_rfl) (by kernel_rfl) (by kernel_rfl) h1816 h1799) ?_)
            refine EL.of (EO.Y (YO.loadEl hS (Kd.int .i64) ad1817 C855 l853 (Rd.ro 0 rfl) 0 (encI .i64) encI_of x1769 h1816 h1799 3 1 0 1 rfl (.int .i64 (l853.getD x1769.toNat 0)) 15 (by kernel_rfl) (by kernel_rfl) (by kernel_rfl) (by kernel_rfl)) ?_)
            obtain ⟨t1818, t1819, hc1820, H⟩ := b2_out H
            refine EL.of (EO.callD 63 [.int .i64 (l853.getD x1769.toNat 0), .pointer (some ⟨g1345, 0, none⟩)] _ 16 (by kernel_rfl) (by kernel_rfl) (by kernel_rfl) (table_Right_1.calls hc1820 hS) ?_)
            rintro v w ⟨rfl, hS⟩
            refine EL.done (by kernel_rfl) ?_
            refine EQ.code ?_
            refine EW.condP' (o := (.tmp 16)) (x := C78.r.l.r.l.l.r.r.l.l.r.r.l) (y := C78.r.l.r.l.l.r.r.l.l.r.r.r) (t1819) (by kernel_rfl) (by kernel_rfl) (fun h1821 => ?_) (fun h1821 => ?_)
            · rw [if_pos h1821] at H
              refine EW.seq (x := C78.r.l.r.l.l.r.r.l.l.r.r.l.l) (y := C78.r.l.r.l.l.r.r.l.l.r.r.l.r) (by kernel_rfl) ?_
              refine EW.region (id := 5) (ops := C78.r.l.r.l.l.r.r.l.l.r.r.l.l.ops) (by kernel_rfl) ?_
              refine EL.quick 2 [4] [(4, .int .i64 x1769)] (by kernel_rfl) ?_
              refine EL.done (by kernel_rfl) ?_
              refine EQ.code ?_
              refine EW.ret (by kernel_rfl) ?_
              refine EQ.ret ?_
              refine EQ.ret ?_
              refine EQ.ret ?_
              refine EQ.ret ?_
              refine EQ.ret ?_
              exact EQ.leave (.int .i64 x1769) (by kernel_rfl) ⟨_, rfl, t1818, x1769, rfl, (hS.re [0] [] rfl (sub_cons 0 rfl (sub_tail (sub_self)))), H⟩
            · rw [if_neg h1821] at H
              refine EW.skip (by kernel_rfl) ?_
              refine EQ.pop ?_
              refine EQ.code ?_
              refine EW.region (id := 6) (ops := C78.r.l.r.l.l.r.r.r.ops) (by kernel_rfl) ?_
              refine EL.quick 2 [0, 1, 7, 8] [(0, .slice (some ad1817) l853.length C855), (1, .func (.func 63) #[] #[.pointer (some ⟨g1345, 0, none⟩)]), (7, .int .i64 (l853.length : Int)), (8, .int .i64 (IntKind.i64.wrap (x1769 + 1)))] (by kernel_rfl) ?_
              refine EL.done (by kernel_rfl) ?_
              refine EQ.to ?_
              refine EQ.keep [0, 1, 7, 8] [(0, .slice (some ad1817) l853.length C855), (1, .func (.func 63) #[] #[.pointer (some ⟨g1345, 0, none⟩)]), (7, .int .i64 (l853.length : Int)), (8, .int .i64 (IntKind.i64.wrap (x1769 + 1)))] (by kernel_rfl) ?_
              exact fun a ha => ⟨n, Nat.lt_succ_self n, t1818, IntKind.i64.wrap (x1769 + 1), ha, (hS.re [0] [] rfl (sub_cons 0 rfl (sub_tail (sub_self)))), H⟩
          · rw [if_neg h1799] at H
            refine EW.exit (id := 0) (by kernel_rfl) ?_
            refine EQ.exitCode ?_
            refine EQ.exitTo ?_
            refine EQ.exitHere ?_
            refine EQ.code ?_
            refine EW.seq (x := C78.r.r.l) (y := C78.r.r.r) (by kernel_rfl) ?_
            refine EW.region (id := 7) (ops := C78.r.r.l.ops) (by kernel_rfl) ?_
            refine EL.quick 1 [4] [(4, .int .i64 (-1))] (by kernel_rfl) ?_
            refine EL.done (by kernel_rfl) ?_
            refine EQ.code ?_
            refine EW.ret (by kernel_rfl) ?_
            exact EQ.leave (.int .i64 (-1)) (by kernel_rfl) ⟨_, rfl, x1768, (-1), rfl, (hS.re [0] [] rfl (sub_cons 0 rfl (sub_tail (sub_self)))), H⟩
      · rintro v w ⟨x1741, x1742, rfl, hS, H⟩
        rw [hj1743] at H
        (try dsimp only at H)
        refine EL.quick 2 [4] [(4, .bool (decide (x1742 ≥ 0)))] (by kernel_rfl) ?_
        refine EL.done (by kernel_rfl) ?_
        refine EQ.code ?_
        refine EW.ret (by kernel_rfl) ?_
        refine EQ.leave (.bool (decide (x1742 ≥ 0))) (by kernel_rfl) ⟨_, rfl, ?_⟩
        refine EL.quick 3 [4] [(4, .bool (!(decide (x1742 ≥ 0))))] (by kernel_rfl) ?_
        refine EL.done (by kernel_rfl) ?_
        refine EQ.code ?_
        refine EW.ret (by kernel_rfl) ?_
        obtain rfl := Option.some.inj H
        exact EQ.leave (.bool (!(decide (x1742 ≥ 0)))) (by kernel_rfl) ⟨_, rfl, rfl, (hS.re [] [0] rfl (sub_self))⟩
    · rw [if_neg h1347] at H
      refine EL.keep [0, 3, 13] [(0, .slice A854 l853.length C855), (3, .pointer (some ⟨g1345, 0, none⟩)), (13, .bool (decide ((l853.length : Int) ≤ 64)))] (by kernel_rfl) ?_
      refine EL.as' [(0, .slice A854 l853.length C855), (3, .pointer (some ⟨g1345, 0, none⟩)), (13, .bool (false))] (by simp only [dec_f h1347, Bool.not_true, Bool.not_false]) ?_
      refine EL.quick 6 [4] [(4, .bool (false))] (by kernel_rfl) ?_
      refine EL.done (by kernel_rfl) ?_
      refine EQ.code ?_
      refine EW.ret (by kernel_rfl) ?_
      obtain rfl := Option.some.inj H
      exact EQ.leave (.bool (false)) (by kernel_rfl) ⟨_, rfl, rfl, (hS.re [] [0] rfl (sub_self))⟩
  · rw [if_neg h1346] at H
    refine EL.keep [0, 3, 8] [(0, .slice A854 l853.length C855), (3, .pointer (some ⟨g1345, 0, none⟩)), (8, .bool (decide ((l853.length : Int) ≥ 1)))] (by kernel_rfl) ?_
    refine EL.as' [(0, .slice A854 l853.length C855), (3, .pointer (some ⟨g1345, 0, none⟩)), (8, .bool (false))] (by simp only [dec_f h1346, Bool.not_true, Bool.not_false]) ?_
    refine EL.quick 11 [4] [(4, .bool (false))] (by kernel_rfl) ?_
    refine EL.done (by kernel_rfl) ?_
    refine EQ.code ?_
    refine EW.ret (by kernel_rfl) ?_
    obtain rfl := Option.some.inj H
    exact EQ.leave (.bool (false)) (by kernel_rfl) ⟨_, rfl, rfl, (hS.re [] [0] rfl (sub_self))⟩

/-! ### slices.Index[[]int,int]: function 79 -/
def slices_Index_int_int.l0 (K : Nat) (l1838 : List Int) (a1841 : Int) : Nat → Int → Option Int
  | 0, _ => none
  | n + 1, x1890 => if x1890 < (l1838.length : Int) then (if 0 ≤ x1890 then (if a1841 = (l1838.getD x1890.toNat 0) then (some x1890) else (slices_Index_int_int.l0 K l1838 a1841 n (IntKind.i64.wrap (x1890 + 1)))) else none) else (some (-1))
def slices_Index_int_int.f (K : Nat) (l1838 : List Int) (a1841 : Int) : Option Int := slices_Index_int_int.l0 K l1838 a1841 K 0
set_option maxRecDepth 100000 in
theorem slices_Index_int_int.calls {K : Nat} {l1838 : List Int} {a1841 : Int} {A1839 : Option Addr} {C1840 : Nat} {x1879 : Int} {B w : World} {os : List Ass} {rs : List Ro} (H : slices_Index_int_int.f K l1838 a1841 = some x1879) (hS : St B w (os) (Ro.sl (Kd.int .i64) A1839 C1840 l1838 :: rs)) :
    Calls Try.prog 79 [.slice A1839 l1838.length C1840, .int .i64 a1841].toArray w (fun en w' => ∃ v, en = .returned v ∧ v = .int .i64 x1879 ∧ St B w' (os) (Ro.sl (Kd.int .i64) A1839 C1840 l1838 :: rs)) := by
  unfold slices_Index_int_int.f at H
  refine calls_of_EW (args := [.slice A1839 l1838.length C1840, .int .i64 a1841]) (c := C79) 19 Try.func79 (by kernel_rfl) (by kernel_rfl) (by kernel_rfl) ?_
  refine EW.seq (x := C79.l) (y := C79.r) (by kernel_rfl) ?_
  refine EW.region (id := 0) (ops := C79.l.ops) (by kernel_rfl) ?_
  refine EL.quick 1 [0, 1] [(0, .slice A1839 l1838.length C1840), (1, .int .i64 a1841)] (by kernel_rfl) ?_
  refine EL.done (by kernel_rfl) ?_
  refine EQ.code ?_
  refine EW.seq (x := C79.r.l) (y := C79.r.r) (by kernel_rfl) ?_
  refine EW.seq (x := C79.r.l.l) (y := C79.r.l.r) (by kernel_rfl) ?_
  refine EW.region (id := 1) (ops := C79.r.l.l.ops) (by kernel_rfl) ?_
  refine EL.quick 3 [0, 1, 7, 8] [(0, .slice A1839 l1838.length C1840), (1, .int .i64 a1841), (7, .int .i64 (l1838.length : Int)), (8, .int .i64 0)] (by kernel_rfl) ?_
  refine EL.done (by kernel_rfl) ?_
  refine EQ.code ?_
  refine EW.block (x := C79.r.l.r.l) (id := 0) (by kernel_rfl) ?_
  refine EW.loop (x := C79.r.l.r.l.l) (fun n a w => ∃ x1890 : Int, Sat 19 [(0, .slice A1839 l1838.length C1840), (1, .int .i64 a1841), (7, .int .i64 (l1838.length : Int)), (8, .int .i64 x1890)] a ∧ St B w (os) (Ro.sl (Kd.int .i64) A1839 C1840 l1838 :: rs) ∧ slices_Index_int_int.l0 K l1838 a1841 n x1890 = some x1879) K (by kernel_rfl) ?_ (fun n a w hI => ?_)
  · refine EQ.keep [0, 1, 7, 8] [(0, .slice A1839 l1838.length C1840), (1, .int .i64 a1841), (7, .int .i64 (l1838.length : Int)), (8, .int .i64 0)] (by kernel_rfl) ?_
    exact fun a ha => ⟨0, ha, (hS.re [] [] rfl (sub_cons 0 rfl (sub_tail (sub_self)))), H⟩
  · obtain ⟨x1890, ha, hS, H⟩ := hI
    obtain _ | n := n
    · simp [slices_Index_int_int.l0] at H
    rw [slices_Index_int_int.l0.eq_2] at H
    refine EW.at ?_ a ha
    clear ha a
    refine EW.seq (x := C79.r.l.r.l.l.l) (y := C79.r.l.r.l.l.r) (by kernel_rfl) ?_
    refine EW.region (id := 2) (ops := C79.r.l.r.l.l.l.ops) (by kernel_rfl) ?_
    refine EL.quick 1 [0, 1, 7, 8, 9] [(0, .slice A1839 l1838.length C1840), (1, .int .i64 a1841), (7, .int .i64 (l1838.length : Int)), (8, .int .i64 x1890), (9, .bool (decide (x1890 < (l1838.length : Int))))] (by kernel_rfl) ?_
    refine EL.done (by kernel_rfl) ?_
    refine EQ.code ?_
    refine EW.seq (x := C79.r.l.r.l.l.r.l) (y := C79.r.l.r.l.l.r.r) (by kernel_rfl) ?_
    refine EW.condP (o := (.tmp 9)) (x := C79.r.l.r.l.l.r.l.l) (y := C79.r.l.r.l.l.r.l.r) (x1890 < (l1838.length : Int)) (by kernel_rfl) (by kernel_rfl) (fun h1906 => ?_) (fun h1906 => ?_)
    · rw [if_pos h1906] at H
      refine EW.skip (by kernel_rfl) ?_
      refine EQ.code ?_
      refine EW.seq (x := C79.r.l.r.l.l.r.r.l) (y := C79.r.l.r.l.l.r.r.r) (by kernel_rfl) ?_
      refine EW.block (x := C79.r.l.r.l.l.r.r.l.l) (id := 1) (by kernel_rfl) ?_
      refine EW.seq (x := C79.r.l.r.l.l.r.r.l.l.l) (y := C79.r.l.r.l.l.r.r.l.l.r) (by kernel_rfl) ?_
      refine EW.region (id := 3) (ops := C79.r.l.r.l.l.r.r.l.l.l.ops) (by kernel_rfl) ?_
      refine EL.quick 2 [0, 1, 5, 7, 8] [(0, .slice A1839 l1838.length C1840), (1, .int .i64 a1841), (5, .int .i64 x1890), (7, .int .i64 (l1838.length : Int)), (8, .int .i64 x1890)] (by kernel_rfl) ?_
      refine EL.done (by kernel_rfl) ?_
      refine EQ.code ?_
      refine EW.seq (x := C79.r.l.r.l.l.r.r.l.l.r.l) (y := C79.r.l.r.l.l.r.r.l.l.r.r) (by kernel_rfl) ?_
      refine EW.region (id := 4) (ops := C79.r.l.r.l.l.r.r.l.l.r.l.ops) (by kernel_rfl) ?_
      refine EL.quick 3 [0, 1, 5, 7, 8, 11, 12, 13] [(0, .slice A1839 l1838.length C1840), (1, .int .i64 a1841), (5, .int .i64 x1890), (7, .int .i64 (l1838.length : Int)), (8, .int .i64 x1890), (11, .int .i64 a1841), (12, .slice A1839 l1838.length C1840), (13, .int .i64 x1890)] (by kernel_rfl) ?_
      obtain ⟨h1914, H⟩ := ite_in H
      obtain ⟨ad1915, rfl⟩ := St.rd_some hS (Rd.ro 0 rfl) h1914 h1906
      refine EL.of (EO.Y (YO.idx 24 1 ad1915 l1838.length C1840 .i64 x1890 14 (by kernel_rfl) (by kernel_rfl) (by kernel_rfl) (by kernel_rfl) h1914 h1906) ?_)
      refine EL.of (EO.Y (YO.loadEl hS (Kd.int .i64) ad1915 C1840 l1838 (Rd.ro 0 rfl) 0 (encI .i64) encI_of x1890 h1914 h1906 3 1 0 1 rfl (.int .i64 (l1838.getD x1890.toNat 0)) 15 (by kernel_rfl) (by kernel_rfl) (by kernel_rfl) (by kernel_rfl)) ?_)
      refine EL.quick 1 [0, 1, 5, 7, 8, 16] [(0, .slice (some ad1915) l1838.length C1840), (1, .int .i64 a1841), (5, .int .i64 x1890), (7, .int .i64 (l1838.length : Int)), (8, .int .i64 x1890), (16, .bool (decide (a1841 = (l1838.getD x1890.toNat 0))))] (by kernel_rfl) ?_
      refine EL.done (by kernel_rfl) ?_
      refine EQ.code ?_
      refine EW.condP (o := (.tmp 16)) (x := C79.r.l.r.l.l.r.r.l.l.r.r.l) (y := C79.r.l.r.l.l.r.r.l.l.r.r.r) (a1841 = (l1838.getD x1890.toNat 0)) (by kernel_rfl) (by kernel_rfl) (fun h1916 => ?_) (fun h1916 => ?_)
      · rw [if_pos h1916] at H
        refine EW.seq (x := C79.r.l.r.l.l.r.r.l.l.r.r.l.l) (y := C79.r.l.r.l.l.r.r.l.l.r.r.l.r) (by kernel_rfl) ?_
        refine EW.region (id := 5) (ops := C79.r.l.r.l.l.r.r.l.l.r.r.l.l.ops) (by kernel_rfl) ?_
        refine EL.quick 2 [4] [(4, .int .i64 x1890)] (by kernel_rfl) ?_
        refine EL.done (by kernel_rfl) ?_
        refine EQ.code ?_
        refine EW.ret (by kernel_rfl) ?_
        refine EQ.ret ?_
        refine EQ.ret ?_
        refine EQ.ret ?_
        refine EQ.ret ?_
        refine EQ.ret ?_
        obtain rfl := Option.some.inj H
        exact EQ.leave (.int .i64 x1890) (by kernel_rfl) ⟨_, rfl, rfl, (hS.re [] [] rfl (sub_self))⟩
      · rw [if_neg h1916] at H
        refine EW.skip (by kernel_rfl) ?_
        refine EQ.pop ?_
        refine EQ.code ?_
        refine EW.region (id := 6) (ops := C79.r.l.r.l.l.r.r.r.ops) (by kernel_rfl) ?_
        refine EL.quick 2 [0, 1, 7, 8] [(0, .slice (some ad1915) l1838.length C1840), (1, .int .i64 a1841), (7, .int .i64 (l1838.length : Int)), (8, .int .i64 (IntKind.i64.wrap (x1890 + 1)))] (by kernel_rfl) ?_
        refine EL.done (by kernel_rfl) ?_
        refine EQ.to ?_
        refine EQ.keep [0, 1, 7, 8] [(0, .slice (some ad1915) l1838.length C1840), (1, .int .i64 a1841), (7, .int .i64 (l1838.length : Int)), (8, .int .i64 (IntKind.i64.wrap (x1890 + 1)))] (by kernel_rfl) ?_
        exact fun a ha => ⟨n, Nat.lt_succ_self n, IntKind.i64.wrap (x1890 + 1), ha, (hS.re [] [] rfl (sub_cons 0 rfl (sub_tail (sub_self)))), H⟩
    · rw [if_neg h1906] at H
      refine EW.exit (id := 0) (by kernel_rfl) ?_
      refine EQ.exitCode ?_
      refine EQ.exitTo ?_
      refine EQ.exitHere ?_
      refine EQ.code ?_
      refine EW.seq (x := C79.r.r.l) (y := C79.r.r.r) (by kernel_rfl) ?_
      refine EW.region (id := 7) (ops := C79.r.r.l.ops) (by kernel_rfl) ?_
      refine EL.quick 1 [4] [(4, .int .i64 (-1))] (by kernel_rfl) ?_
      refine EL.done (by kernel_rfl) ?_
      refine EQ.code ?_
      refine EW.ret (by kernel_rfl) ?_
      obtain rfl := Option.some.inj H
      exact EQ.leave (.int .i64 (-1)) (by kernel_rfl) ⟨_, rfl, rfl, (hS.re [] [] rfl (sub_self))⟩

/-! ### slices.Contains[[]int,int]: function 64 -/
def slices_Contains_int_int.f (K : Nat) (l1834 : List Int) (a1837 : Int) : Option Bool := b1 (slices_Index_int_int.f K l1834 a1837) fun (t1920 : Int) => (some (decide (t1920 ≥ 0)))
set_option maxRecDepth 100000 in
theorem slices_Contains_int_int.calls {K : Nat} {l1834 : List Int} {a1837 : Int} {A1835 : Option Addr} {C1836 : Nat} {x1919 : Bool} {B w : World} {os : List Ass} {rs : List Ro} (H : slices_Contains_int_int.f K l1834 a1837 = some x1919) (hS : St B w (os) (Ro.sl (Kd.int .i64) A1835 C1836 l1834 :: rs)) :
    Calls Try.prog 64 [.slice A1835 l1834.length C1836, .int .i64 a1837].toArray w (fun en w' => ∃ v, en = .returned v ∧ v = .bool (x1919) ∧ St B w' (os) (Ro.sl (Kd.int .i64) A1835 C1836 l1834 :: rs)) := by
  unfold slices_Contains_int_int.f at H
  refine calls_of_EW (args := [.slice A1835 l1834.length C1836, .int .i64 a1837]) (c := C64) 9 Try.func64 (by kernel_rfl) (by kernel_rfl) (by kernel_rfl) ?_
  refine EW.seq (x := C64.l) (y := C64.r) (by kernel_rfl) ?_
  refine EW.region (id := 0) (ops := C64.l.ops) (by kernel_rfl) ?_
  refine EL.quick 1 [0, 1] [(0, .slice A1835 l1834.length C1836), (1, .int .i64 a1837)] (by kernel_rfl) ?_
  refine EL.done (by kernel_rfl) ?_
  refine EQ.code ?_
  refine EW.seq (x := C64.r.l) (y := C64.r.r) (by kernel_rfl) ?_
  refine EW.region (id := 1) (ops := C64.r.l.ops) (by kernel_rfl) ?_
  refine EL.quick 2 [5, 6] [(5, .slice A1835 l1834.length C1836), (6, .int .i64 a1837)] (by kernel_rfl) ?_
  have hS : St B _ (os) (Ro.sl (Kd.int .i64) A1835 C1836 l1834 :: Ro.sl (Kd.int .i64) A1835 C1836 l1834 :: rs) := hS.re [] [] rfl (sub_cons 0 rfl sub_self)
  obtain ⟨t1920, hc1921, H⟩ := b1_out H
  refine EL.of (EO.callD 79 [.slice A1835 l1834.length C1836, .int .i64 a1837] _ 7 (by kernel_rfl) (by kernel_rfl) (by kernel_rfl) (slices_Index_int_int.calls hc1921 hS) ?_)
  rintro v w ⟨rfl, hS⟩
  refine EL.quick 2 [4] [(4, .bool (decide (t1920 ≥ 0)))] (by kernel_rfl) ?_
  refine EL.done (by kernel_rfl) ?_
  refine EQ.code ?_
  refine EW.ret (by kernel_rfl) ?_
  obtain rfl := Option.some.inj H
  exact EQ.leave (.bool (decide (t1920 ≥ 0))) (by kernel_rfl) ⟨_, rfl, rfl, (hS.re [] [] rfl (sub_tail (sub_self)))⟩

/-! ### confidant/table.All: function 34 -/
def table_All.l0 (K : Nat) (a1831 : Int) (l1828 : List Int) (j2129 : Option Bool) : Nat → Int → Option Bool
  | 0, _ => none
  | n + 1, x2144 => if x2144 < a1831 then (b1 (slices_Contains_int_int.f K l1828 x2144) fun (t2168 : Bool) => (if t2168 = true then (table_All.l0 K a1831 l1828 j2129 n (IntKind.i64.wrap (x2144 + 1))) else (some false))) else (j2129)
def table_All.f (K : Nat) (l1828 : List Int) (a1831 : Int) : Option Bool := lt (b1 (table_Right.f K l1828 a1831) fun (t2171 : Bool) => (some t2171)) fun j2129 => (table_All.l0 K a1831 l1828 j2129 K 0)
set_option maxRecDepth 100000 in
theorem table_All.calls {K : Nat} {l1828 : List Int} {a1831 : Int} {A1829 : Option Addr} {C1830 : Nat} {x2046 : Bool} {B w : World} {os : List Ass} {rs : List Ro} (H : table_All.f K l1828 a1831 = some x2046) (hS : St B w (os) (Ro.sl (Kd.int .i64) A1829 C1830 l1828 :: rs)) :
    Calls Try.prog 34 [.slice A1829 l1828.length C1830, .int .i64 a1831].toArray w (fun en w' => ∃ v, en = .returned v ∧ v = .bool (x2046) ∧ St B w' (os) (Ro.sl (Kd.int .i64) A1829 C1830 l1828 :: rs)) := by
  unfold table_All.f at H
  refine calls_of_EW (args := [.slice A1829 l1828.length C1830, .int .i64 a1831]) (c := C34) 18 Try.func34 (by kernel_rfl) (by kernel_rfl) (by kernel_rfl) ?_
  refine EW.seq (x := C34.l) (y := C34.r) (by kernel_rfl) ?_
  refine EW.region (id := 0) (ops := C34.l.ops) (by kernel_rfl) ?_
  refine EL.quick 1 [0, 1] [(0, .slice A1829 l1828.length C1830), (1, .int .i64 a1831)] (by kernel_rfl) ?_
  refine EL.done (by kernel_rfl) ?_
  refine EQ.code ?_
  obtain ⟨j2129, hj2129, H⟩ := lt_out H
  refine EW.cut (x := C34.r.l) (y := C34.r.r) (fun a w => Sat 18 [(0, .slice A1829 l1828.length C1830), (1, .int .i64 a1831)] a ∧ St B w (os) (Ro.sl (Kd.int .i64) A1829 C1830 l1828 :: rs) ∧ j2129 = some x2046) (by kernel_rfl) ?_ (fun a w hI => ?_)
  · refine EW.seq (x := C34.r.l.l) (y := C34.r.l.r) (by kernel_rfl) ?_
    refine EW.region (id := 1) (ops := C34.r.l.l.ops) (by kernel_rfl) ?_
    refine EL.quick 2 [0, 1, 6, 7] [(0, .slice A1829 l1828.length C1830), (1, .int .i64 a1831), (6, .int .i64 a1831), (7, .int .i64 0)] (by kernel_rfl) ?_
    refine EL.done (by kernel_rfl) ?_
    refine EQ.code ?_
    refine EW.block (x := C34.r.l.r.l) (id := 0) (by kernel_rfl) ?_
    refine EW.loop (x := C34.r.l.r.l.l) (fun n a w => ∃ x2144 : Int, Sat 18 [(0, .slice A1829 l1828.length C1830), (1, .int .i64 a1831), (6, .int .i64 a1831), (7, .int .i64 x2144)] a ∧ St B w (os) (Ro.sl (Kd.int .i64) A1829 C1830 l1828 :: rs) ∧ table_All.l0 K a1831 l1828 j2129 n x2144 = some x2046) K (by kernel_rfl) ?_ (fun n a w hI => ?_)
    · refine EQ.keep [0, 1, 6, 7] [(0, .slice A1829 l1828.length C1830), (1, .int .i64 a1831), (6, .int .i64 a1831), (7, .int .i64 0)] (by kernel_rfl) ?_
      exact fun a ha => ⟨0, ha, (hS.re [] [] rfl (sub_cons 0 rfl (sub_tail (sub_self)))), H⟩
    · obtain ⟨x2144, ha, hS, H⟩ := hI
      obtain _ | n := n
      · simp [table_All.l0] at H
      rw [table_All.l0.eq_2] at H
      refine EW.at ?_ a ha
      clear ha a
      refine EW.seq (x := C34.r.l.r.l.l.l) (y := C34.r.l.r.l.l.r) (by kernel_rfl) ?_
      refine EW.region (id := 2) (ops := C34.r.l.r.l.l.l.ops) (by kernel_rfl) ?_
      refine EL.quick 1 [0, 1, 6, 7, 8] [(0, .slice A1829 l1828.length C1830), (1, .int .i64 a1831), (6, .int .i64 a1831), (7, .int .i64 x2144), (8, .bool (decide (x2144 < a1831)))] (by kernel_rfl) ?_
      refine EL.done (by kernel_rfl) ?_
      refine EQ.code ?_
      refine EW.seq (x := C34.r.l.r.l.l.r.l) (y := C34.r.l.r.l.l.r.r) (by kernel_rfl) ?_
      refine EW.condP (o := (.tmp 8)) (x := C34.r.l.r.l.l.r.l.l) (y := C34.r.l.r.l.l.r.l.r) (x2144 < a1831) (by kernel_rfl) (by kernel_rfl) (fun h2160 => ?_) (fun h2160 => ?_)
      · rw [if_pos h2160] at H
        refine EW.skip (by kernel_rfl) ?_
        refine EQ.code ?_
        refine EW.seq (x := C34.r.l.r.l.l.r.r.l) (y := C34.r.l.r.l.l.r.r.r) (by kernel_rfl) ?_
        refine EW.block (x := C34.r.l.r.l.l.r.r.l.l) (id := 1) (by kernel_rfl) ?_
        refine EW.seq (x := C34.r.l.r.l.l.r.r.l.l.l) (y := C34.r.l.r.l.l.r.r.l.l.r) (by kernel_rfl) ?_
        refine EW.region (id := 3) (ops := C34.r.l.r.l.l.r.r.l.l.l.ops) (by kernel_rfl) ?_
        refine EL.quick 2 [0, 1, 5, 6, 7] [(0, .slice A1829 l1828.length C1830), (1, .int .i64 a1831), (5, .int .i64 x2144), (6, .int .i64 a1831), (7, .int .i64 x2144)] (by kernel_rfl) ?_
        refine EL.done (by kernel_rfl) ?_
        refine EQ.code ?_
        refine EW.seq (x := C34.r.l.r.l.l.r.r.l.l.r.l) (y := C34.r.l.r.l.l.r.r.l.l.r.r) (by kernel_rfl) ?_
        refine EW.region (id := 4) (ops := C34.r.l.r.l.l.r.r.l.l.r.l.ops) (by kernel_rfl) ?_
        refine EL.quick 2 [0, 1, 6, 7, 10, 11] [(0, .slice A1829 l1828.length C1830), (1, .int .i64 a1831), (6, .int .i64 a1831), (7, .int .i64 x2144), (10, .slice A1829 l1828.length C1830), (11, .int .i64 x2144)] (by kernel_rfl) ?_
        have hS : St B _ (os) (Ro.sl (Kd.int .i64) A1829 C1830 l1828 :: Ro.sl (Kd.int .i64) A1829 C1830 l1828 :: rs) := hS.re [] [] rfl (sub_cons 0 rfl sub_self)
        obtain ⟨t2168, hc2169, H⟩ := b1_out H
        refine EL.of (EO.callD 64 [.slice A1829 l1828.length C1830, .int .i64 x2144] _ 12 (by kernel_rfl) (by kernel_rfl) (by kernel_rfl) (slices_Contains_int_int.calls hc2169 hS) ?_)
        rintro v w ⟨rfl, hS⟩
        refine EL.quick 1 [0, 1, 6, 7, 13] [(0, .slice A1829 l1828.length C1830), (1, .int .i64 a1831), (6, .int .i64 a1831), (7, .int .i64 x2144), (13, .bool (!(t2168)))] (by kernel_rfl) ?_
        refine EL.done (by kernel_rfl) ?_
        refine EQ.code ?_
        refine EW.condQ (b := !(t2168)) (o := (.tmp 13)) (x := C34.r.l.r.l.l.r.r.l.l.r.r.l) (y := C34.r.l.r.l.l.r.r.l.l.r.r.r) (t2168 = true) (false) (by kernel_rfl) (by kernel_rfl) (by constructor <;> intro h <;> simp [h]) (fun h2170 => ?_) (fun h2170 => ?_)
        · rw [if_pos h2170] at H
          refine EW.skip (by kernel_rfl) ?_
          refine EQ.pop ?_
          refine EQ.code ?_
          refine EW.region (id := 6) (ops := C34.r.l.r.l.l.r.r.r.ops) (by kernel_rfl) ?_
          refine EL.quick 2 [0, 1, 6, 7] [(0, .slice A1829 l1828.length C1830), (1, .int .i64 a1831), (6, .int .i64 a1831), (7, .int .i64 (IntKind.i64.wrap (x2144 + 1)))] (by kernel_rfl) ?_
          refine EL.done (by kernel_rfl) ?_
          refine EQ.to ?_
          refine EQ.keep [0, 1, 6, 7] [(0, .slice A1829 l1828.length C1830), (1, .int .i64 a1831), (6, .int .i64 a1831), (7, .int .i64 (IntKind.i64.wrap (x2144 + 1)))] (by kernel_rfl) ?_
          exact fun a ha => ⟨n, Nat.lt_succ_self n, IntKind.i64.wrap (x2144 + 1), ha, (hS.re [] [] rfl (sub_cons 0 rfl (sub_tail (sub_tail (sub_self))))), H⟩
        · rw [if_neg h2170] at H
          refine EW.seq (x := C34.r.l.r.l.l.r.r.l.l.r.r.l.l) (y := C34.r.l.r.l.l.r.r.l.l.r.r.l.r) (by kernel_rfl) ?_
          refine EW.region (id := 5) (ops := C34.r.l.r.l.l.r.r.l.l.r.r.l.l.ops) (by kernel_rfl) ?_
          refine EL.quick 1 [4] [(4, .bool (false))] (by kernel_rfl) ?_
          refine EL.done (by kernel_rfl) ?_
          refine EQ.code ?_
          refine EW.ret (by kernel_rfl) ?_
          refine EQ.ret ?_
          refine EQ.ret ?_
          refine EQ.ret ?_
          refine EQ.ret ?_
          refine EQ.ret ?_
          obtain rfl := Option.some.inj H
          exact EQ.leave (.bool (false)) (by kernel_rfl) ⟨_, rfl, rfl, (hS.re [] [] rfl (sub_tail (sub_self)))⟩
      · rw [if_neg h2160] at H
        refine EW.exit (id := 0) (by kernel_rfl) ?_
        refine EQ.exitCode ?_
        refine EQ.exitTo ?_
        refine EQ.exitHere ?_
        refine EQ.to ?_
        refine EQ.keep [0, 1] [(0, .slice A1829 l1828.length C1830), (1, .int .i64 a1831)] (by kernel_rfl) ?_
        exact fun a ha => ⟨ha, (hS.re [] [] rfl (sub_cons 0 rfl (sub_tail (sub_self)))), H⟩
  · obtain ⟨ha, hS, H⟩ := hI
    rw [hj2129] at H
    (try dsimp only at H)
    refine EW.at ?_ a ha
    clear ha a
    refine EW.seq (x := C34.r.r.l) (y := C34.r.r.r) (by kernel_rfl) ?_
    refine EW.region (id := 7) (ops := C34.r.r.l.ops) (by kernel_rfl) ?_
    refine EL.quick 2 [15, 16] [(15, .slice A1829 l1828.length C1830), (16, .int .i64 a1831)] (by kernel_rfl) ?_
    have hS : St B _ (os) (Ro.sl (Kd.int .i64) A1829 C1830 l1828 :: Ro.sl (Kd.int .i64) A1829 C1830 l1828 :: rs) := hS.re [] [] rfl (sub_cons 0 rfl sub_self)
    obtain ⟨t2171, hc2172, H⟩ := b1_out H
    refine EL.of (EO.callD 32 [.slice A1829 l1828.length C1830, .int .i64 a1831] _ 17 (by kernel_rfl) (by kernel_rfl) (by kernel_rfl) (table_Right.calls hc2172 hS) ?_)
    rintro v w ⟨rfl, hS⟩
    refine EL.quick 1 [4] [(4, .bool (t2171))] (by kernel_rfl) ?_
    refine EL.done (by kernel_rfl) ?_
    refine EQ.code ?_
    refine EW.ret (by kernel_rfl) ?_
    obtain rfl := Option.some.inj H
    exact EQ.leave (.bool (t2171)) (by kernel_rfl) ⟨_, rfl, rfl, (hS.re [] [] rfl (sub_tail (sub_self)))⟩

/-! ### confidant/confidantlaw18.known: function 31 -/
def confidantlaw18_known.f (K : Nat)  : Option Bool := lt ([1, 0, 1] : List Int) fun l2182 => (b1 (table_At.f K l2182 3) fun (t2183 : Int) => (if t2183 = 1 then (b1 (table_At.f K l2182 4) fun (t2186 : Int) => (if t2186 = 0 then (b1 (table_At.f K ([] : List Int) 0) fun (t2189 : Int) => (if t2189 = (-1) then (b1 (table_Next.f K l2182 0 2) fun (t2192 : Int) => (if t2192 = 4 then (b1 (table_Next.f K l2182 5 0) fun (t2195 : Int) => (if t2195 = (-1) then (b1 (table_Slots.f K l2182 1 0 6) fun (t2198 : Int) => (if t2198 = 4 then (b1 (table_Right.f K l2182 2) fun (t2201 : Bool) => (if t2201 = true then (b1 (table_Right.f K l2182 1) fun (t2204 : Bool) => (if t2204 = true then (some false) else (b1 (table_All.f K l2182 2) fun (t2207 : Bool) => (if t2207 = true then (b1 (table_All.f K l2182 3) fun (t2210 : Bool) => (some (!(t2210)))) else (some false))))) else (some false))) else (some false))) else (some false))) else (some false))) else (some false))) else (some false))) else (some false)))
set_option maxRecDepth 100000 in
theorem confidantlaw18_known.calls {K : Nat} {x2178 : Bool} {B w : World} {os : List Ass} {rs : List Ro} (H : confidantlaw18_known.f K = some x2178) (hS : St B w (os) (rs)) :
    Calls Try.prog 31 [].toArray w (fun en w' => ∃ v, en = .returned v ∧ v = .bool (x2178) ∧ St B w' (os) (rs)) := by
  unfold confidantlaw18_known.f at H
  refine calls_of_EW (args := []) (c := C31) 48 Try.func31 (by kernel_rfl) (by kernel_rfl) (by kernel_rfl) ?_
  refine EW.seq (x := C31.l) (y := C31.r) (by kernel_rfl) ?_
  refine EW.region (id := 0) (ops := C31.l.ops) (by kernel_rfl) ?_
  refine EL.quick 1 [] [] (by kernel_rfl) ?_
  refine EL.done (by kernel_rfl) ?_
  refine EQ.code ?_
  refine EW.seq (x := C31.r.l) (y := C31.r.r) (by kernel_rfl) ?_
  refine EW.region (id := 1) (ops := C31.r.l.ops) (by kernel_rfl) ?_
  obtain ⟨l2182, hl2182, H⟩ := lt_out H
  refine EL.of (EO.lit hS (Kd.int .i64) 3 24 3 #[(0, .int .i64 1), (1, .int .i64 0), (2, .int .i64 1)] [.int .i64 1, .int .i64 0, .int .i64 1] l2182 2 (by kernel_rfl) (by kernel_rfl) (by kernel_rfl) (fun _ => (by kernel_rfl)) (by rw [hl2182]; rfl) (by kernel_rfl) (fun w G hr => (by rw [hl2182]; exact ⟨[.int .i64 1], [.int .i64 0, .int .i64 1], rfl, rfl, ⟨[.int .i64 0], [.int .i64 1], rfl, rfl, ⟨[.int .i64 1], [], rfl, rfl, rfl⟩⟩⟩)) ?_)
  intro g2181 w hS
  refine EL.quick 1 [1] [(1, .slice (some ⟨g2181, 0, none⟩) l2182.length 3)] (by kernel_rfl) ?_
  refine EL.done (by kernel_rfl) ?_
  refine EQ.code ?_
  refine EW.seq (x := C31.r.r.l) (y := C31.r.r.r) (by kernel_rfl) ?_
  refine EW.region (id := 2) (ops := C31.r.r.l.ops) (by kernel_rfl) ?_
  refine EL.quick 1 [1, 3] [(1, .slice (some ⟨g2181, 0, none⟩) l2182.length 3), (3, .slice (some ⟨g2181, 0, none⟩) l2182.length 3)] (by kernel_rfl) ?_
  have hS := St.fr hS 0 rfl
  have hS : St B _ (os) (Ro.sl (Kd.int .i64) (some ⟨g2181, 0, none⟩) 3 l2182 :: Ro.sl (Kd.int .i64) (some ⟨g2181, 0, none⟩) 3 l2182 :: rs) := hS.re [] [] rfl (sub_cons 0 rfl sub_self)
  obtain ⟨t2183, hc2184, H⟩ := b1_out H
  refine EL.of (EO.callD 36 [.slice (some ⟨g2181, 0, none⟩) l2182.length 3, .int .i64 3] _ 4 (by kernel_rfl) (by kernel_rfl) (by kernel_rfl) (table_At.calls hc2184 hS) ?_)
  rintro v w ⟨rfl, hS⟩
  refine EL.quick 2 [1, 6] [(1, .slice (some ⟨g2181, 0, none⟩) l2182.length 3), (6, .bool (decide (t2183 = 1)))] (by kernel_rfl) ?_
  by_cases h2185 : t2183 = 1
  · rw [if_pos h2185] at H
    refine EL.keep [1, 6] [(1, .slice (some ⟨g2181, 0, none⟩) l2182.length 3), (6, .bool (decide (t2183 = 1)))] (by kernel_rfl) ?_
    refine EL.as' [(1, .slice (some ⟨g2181, 0, none⟩) l2182.length 3), (6, .bool (true))] (by simp only [dec_t h2185, Bool.not_true, Bool.not_false]) ?_
    refine EL.quick 1 [1, 6, 7] [(1, .slice (some ⟨g2181, 0, none⟩) l2182.length 3), (6, .bool (true)), (7, .slice (some ⟨g2181, 0, none⟩) l2182.length 3)] (by kernel_rfl) ?_
    have hS : St B _ (os) (Ro.sl (Kd.int .i64) (some ⟨g2181, 0, none⟩) 3 l2182 :: Ro.sl (Kd.int .i64) (some ⟨g2181, 0, none⟩) 3 l2182 :: Ro.sl (Kd.int .i64) (some ⟨g2181, 0, none⟩) 3 l2182 :: rs) := hS.re [] [] rfl (sub_cons 0 rfl sub_self)
    obtain ⟨t2186, hc2187, H⟩ := b1_out H
    refine EL.of (EO.callD 36 [.slice (some ⟨g2181, 0, none⟩) l2182.length 3, .int .i64 4] _ 8 (by kernel_rfl) (by kernel_rfl) (by kernel_rfl) (table_At.calls hc2187 hS) ?_)
    rintro v w ⟨rfl, hS⟩
    refine EL.quick 3 [1, 11] [(1, .slice (some ⟨g2181, 0, none⟩) l2182.length 3), (11, .bool (decide (t2186 = 0)))] (by kernel_rfl) ?_
    by_cases h2188 : t2186 = 0
    · rw [if_pos h2188] at H
      refine EL.keep [1, 11] [(1, .slice (some ⟨g2181, 0, none⟩) l2182.length 3), (11, .bool (decide (t2186 = 0)))] (by kernel_rfl) ?_
      refine EL.as' [(1, .slice (some ⟨g2181, 0, none⟩) l2182.length 3), (11, .bool (true))] (by simp only [dec_t h2188, Bool.not_true, Bool.not_false]) ?_
      have hS := St.nilR hS (Kd.int .i64)
      have hS : St B _ (os) (Ro.sl (Kd.int .i64) none 0 ([] : List Int) :: Ro.sl (Kd.int .i64) none 0 ([] : List Int) :: Ro.sl (Kd.int .i64) (some ⟨g2181, 0, none⟩) 3 l2182 :: Ro.sl (Kd.int .i64) (some ⟨g2181, 0, none⟩) 3 l2182 :: Ro.sl (Kd.int .i64) (some ⟨g2181, 0, none⟩) 3 l2182 :: rs) := hS.re [] [] rfl (sub_cons 0 rfl sub_self)
      obtain ⟨t2189, hc2190, H⟩ := b1_out H
      refine EL.of (EO.callD 36 [.slice none ([] : List Int).length 0, .int .i64 0] _ 12 (by kernel_rfl) (by kernel_rfl) (by kernel_rfl) (table_At.calls hc2190 hS) ?_)
      rintro v w ⟨rfl, hS⟩
      refine EL.quick 3 [1, 15] [(1, .slice (some ⟨g2181, 0, none⟩) l2182.length 3), (15, .bool (decide (t2189 = (-1))))] (by kernel_rfl) ?_
      by_cases h2191 : t2189 = (-1)
      · rw [if_pos h2191] at H
        refine EL.keep [1, 15] [(1, .slice (some ⟨g2181, 0, none⟩) l2182.length 3), (15, .bool (decide (t2189 = (-1))))] (by kernel_rfl) ?_
        refine EL.as' [(1, .slice (some ⟨g2181, 0, none⟩) l2182.length 3), (15, .bool (true))] (by simp only [dec_t h2191, Bool.not_true, Bool.not_false]) ?_
        refine EL.quick 1 [1, 15, 16] [(1, .slice (some ⟨g2181, 0, none⟩) l2182.length 3), (15, .bool (true)), (16, .slice (some ⟨g2181, 0, none⟩) l2182.length 3)] (by kernel_rfl) ?_
        have hS : St B _ (os) (Ro.sl (Kd.int .i64) (some ⟨g2181, 0, none⟩) 3 l2182 :: Ro.sl (Kd.int .i64) none 0 ([] : List Int) :: Ro.sl (Kd.int .i64) none 0 ([] : List Int) :: Ro.sl (Kd.int .i64) (some ⟨g2181, 0, none⟩) 3 l2182 :: Ro.sl (Kd.int .i64) (some ⟨g2181, 0, none⟩) 3 l2182 :: Ro.sl (Kd.int .i64) (some ⟨g2181, 0, none⟩) 3 l2182 :: rs) := hS.re [] [] rfl (sub_cons 2 rfl sub_self)
        obtain ⟨t2192, hc2193, H⟩ := b1_out H
        refine EL.of (EO.callD 38 [.slice (some ⟨g2181, 0, none⟩) l2182.length 3, .int .i64 0, .int .i64 2] _ 17 (by kernel_rfl) (by kernel_rfl) (by kernel_rfl) (table_Next.calls hc2193 hS) ?_)
        rintro v w ⟨rfl, hS⟩
        refine EL.quick 3 [1, 20] [(1, .slice (some ⟨g2181, 0, none⟩) l2182.length 3), (20, .bool (decide (t2192 = 4)))] (by kernel_rfl) ?_
        by_cases h2194 : t2192 = 4
        · rw [if_pos h2194] at H
          refine EL.keep [1, 20] [(1, .slice (some ⟨g2181, 0, none⟩) l2182.length 3), (20, .bool (decide (t2192 = 4)))] (by kernel_rfl) ?_
          refine EL.as' [(1, .slice (some ⟨g2181, 0, none⟩) l2182.length 3), (20, .bool (true))] (by simp only [dec_t h2194, Bool.not_true, Bool.not_false]) ?_
          refine EL.quick 1 [1, 20, 21] [(1, .slice (some ⟨g2181, 0, none⟩) l2182.length 3), (20, .bool (true)), (21, .slice (some ⟨g2181, 0, none⟩) l2182.length 3)] (by kernel_rfl) ?_
          have hS : St B _ (os) (Ro.sl (Kd.int .i64) (some ⟨g2181, 0, none⟩) 3 l2182 :: Ro.sl (Kd.int .i64) (some ⟨g2181, 0, none⟩) 3 l2182 :: Ro.sl (Kd.int .i64) none 0 ([] : List Int) :: Ro.sl (Kd.int .i64) none 0 ([] : List Int) :: Ro.sl (Kd.int .i64) (some ⟨g2181, 0, none⟩) 3 l2182 :: Ro.sl (Kd.int .i64) (some ⟨g2181, 0, none⟩) 3 l2182 :: Ro.sl (Kd.int .i64) (some ⟨g2181, 0, none⟩) 3 l2182 :: rs) := hS.re [] [] rfl (sub_cons 0 rfl sub_self)
          obtain ⟨t2195, hc2196, H⟩ := b1_out H
          refine EL.of (EO.callD 38 [.slice (some ⟨g2181, 0, none⟩) l2182.length 3, .int .i64 5, .int .i64 0] _ 22 (by kernel_rfl) (by kernel_rfl) (by kernel_rfl) (table_Next.calls hc2196 hS) ?_)
          rintro v w ⟨rfl, hS⟩
          refine EL.quick 3 [1, 25] [(1, .slice (some ⟨g2181, 0, none⟩) l2182.length 3), (25, .bool (decide (t2195 = (-1))))] (by kernel_rfl) ?_
          by_cases h2197 : t2195 = (-1)
          · rw [if_pos h2197] at H
            refine EL.keep [1, 25] [(1, .slice (some ⟨g2181, 0, none⟩) l2182.length 3), (25, .bool (decide (t2195 = (-1))))] (by kernel_rfl) ?_
            refine EL.as' [(1, .slice (some ⟨g2181, 0, none⟩) l2182.length 3), (25, .bool (true))] (by simp only [dec_t h2197, Bool.not_true, Bool.not_false]) ?_
            refine EL.quick 1 [1, 25, 26] [(1, .slice (some ⟨g2181, 0, none⟩) l2182.length 3), (25, .bool (true)), (26, .slice (some ⟨g2181, 0, none⟩) l2182.length 3)] (by kernel_rfl) ?_
            have hS : St B _ (os) (Ro.sl (Kd.int .i64) (some ⟨g2181, 0, none⟩) 3 l2182 :: Ro.sl (Kd.int .i64) (some ⟨g2181, 0, none⟩) 3 l2182 :: Ro.sl (Kd.int .i64) (some ⟨g2181, 0, none⟩) 3 l2182 :: Ro.sl (Kd.int .i64) none 0 ([] : List Int) :: Ro.sl (Kd.int .i64) none 0 ([] : List Int) :: Ro.sl (Kd.int .i64) (some ⟨g2181, 0, none⟩) 3 l2182 :: Ro.sl (Kd.int .i64) (some ⟨g2181, 0, none⟩) 3 l2182 :: Ro.sl (Kd.int .i64) (some ⟨g2181, 0, none⟩) 3 l2182 :: rs) := hS.re [] [] rfl (sub_cons 0 rfl sub_self)
            obtain ⟨t2198, hc2199, H⟩ := b1_out H
            refine EL.of (EO.callD 40 [.slice (some ⟨g2181, 0, none⟩) l2182.length 3, .int .i64 1, .int .i64 0, .int .i64 6] _ 27 (by kernel_rfl) (by kernel_rfl) (by kernel_rfl) (table_Slots.calls hc2199 hS) ?_)
            rintro v w ⟨rfl, hS⟩
            refine EL.quick 3 [1, 30] [(1, .slice (some ⟨g2181, 0, none⟩) l2182.length 3), (30, .bool (decide (t2198 = 4)))] (by kernel_rfl) ?_
            by_cases h2200 : t2198 = 4
            · rw [if_pos h2200] at H
              refine EL.keep [1, 30] [(1, .slice (some ⟨g2181, 0, none⟩) l2182.length 3), (30, .bool (decide (t2198 = 4)))] (by kernel_rfl) ?_
              refine EL.as' [(1, .slice (some ⟨g2181, 0, none⟩) l2182.length 3), (30, .bool (true))] (by simp only [dec_t h2200, Bool.not_true, Bool.not_false]) ?_
              refine EL.quick 1 [1, 30, 31] [(1, .slice (some ⟨g2181, 0, none⟩) l2182.length 3), (30, .bool (true)), (31, .slice (some ⟨g2181, 0, none⟩) l2182.length 3)] (by kernel_rfl) ?_
              have hS : St B _ (os) (Ro.sl (Kd.int .i64) (some ⟨g2181, 0, none⟩) 3 l2182 :: Ro.sl (Kd.int .i64) (some ⟨g2181, 0, none⟩) 3 l2182 :: Ro.sl (Kd.int .i64) (some ⟨g2181, 0, none⟩) 3 l2182 :: Ro.sl (Kd.int .i64) (some ⟨g2181, 0, none⟩) 3 l2182 :: Ro.sl (Kd.int .i64) none 0 ([] : List Int) :: Ro.sl (Kd.int .i64) none 0 ([] : List Int) :: Ro.sl (Kd.int .i64) (some ⟨g2181, 0, none⟩) 3 l2182 :: Ro.sl (Kd.int .i64) (some ⟨g2181, 0, none⟩) 3 l2182 :: Ro.sl (Kd.int .i64) (some ⟨g2181, 0, none⟩) 3 l2182 :: rs) := hS.re [] [] rfl (sub_cons 0 rfl sub_self)
              obtain ⟨t2201, hc2202, H⟩ := b1_out H
              refine EL.of (EO.callD 32 [.slice (some ⟨g2181, 0, none⟩) l2182.length 3, .int .i64 2] _ 32 (by kernel_rfl) (by kernel_rfl) (by kernel_rfl) (table_Right.calls hc2202 hS) ?_)
              rintro v w ⟨rfl, hS⟩
              refine EL.quick 2 [1, 34] [(1, .slice (some ⟨g2181, 0, none⟩) l2182.length 3), (34, .bool (t2201))] (by kernel_rfl) ?_
              by_cases h2203 : t2201 = true
              · rw [if_pos h2203] at H
                refine EL.keep [1, 34] [(1, .slice (some ⟨g2181, 0, none⟩) l2182.length 3), (34, .bool (t2201))] (by kernel_rfl) ?_
                refine EL.as' [(1, .slice (some ⟨g2181, 0, none⟩) l2182.length 3), (34, .bool (true))] (by simp only [h2203, Bool.not_true, Bool.not_false]) ?_
                refine EL.quick 1 [1, 34, 35] [(1, .slice (some ⟨g2181, 0, none⟩) l2182.length 3), (34, .bool (true)), (35, .slice (some ⟨g2181, 0, none⟩) l2182.length 3)] (by kernel_rfl) ?_
                have hS : St B _ (os) (Ro.sl (Kd.int .i64) (some ⟨g2181, 0, none⟩) 3 l2182 :: Ro.sl (Kd.int .i64) (some ⟨g2181, 0, none⟩) 3 l2182 :: Ro.sl (Kd.int .i64) (some ⟨g2181, 0, none⟩) 3 l2182 :: Ro.sl (Kd.int .i64) (some ⟨g2181, 0, none⟩) 3 l2182 :: Ro.sl (Kd.int .i64) (some ⟨g2181, 0, none⟩) 3 l2182 :: Ro.sl (Kd.int .i64) none 0 ([] : List Int) :: Ro.sl (Kd.int .i64) none 0 ([] : List Int) :: Ro.sl (Kd.int .i64) (some ⟨g2181, 0, none⟩) 3 l2182 :: Ro.sl (Kd.int .i64) (some ⟨g2181, 0, none⟩) 3 l2182 :: Ro.sl (Kd.int .i64) (some ⟨g2181, 0, none⟩) 3 l2182 :: rs) := hS.re [] [] rfl (sub_cons 0 rfl sub_self)
                obtain ⟨t2204, hc2205, H⟩ := b1_out H
                refine EL.of (EO.callD 32 [.slice (some ⟨g2181, 0, none⟩) l2182.length 3, .int .i64 1] _ 36 (by kernel_rfl) (by kernel_rfl) (by kernel_rfl) (table_Right.calls hc2205 hS) ?_)
                rintro v w ⟨rfl, hS⟩
                refine EL.quick 3 [1, 39] [(1, .slice (some ⟨g2181, 0, none⟩) l2182.length 3), (39, .bool (!(t2204)))] (by kernel_rfl) ?_
                by_cases h2206 : t2204 = true
                · rw [if_pos h2206] at H
                  refine EL.keep [1, 39] [(1, .slice (some ⟨g2181, 0, none⟩) l2182.length 3), (39, .bool (!(t2204)))] (by kernel_rfl) ?_
                  refine EL.as' [(1, .slice (some ⟨g2181, 0, none⟩) l2182.length 3), (39, .bool (false))] (by simp only [h2206, Bool.not_true, Bool.not_false]) ?_
                  refine EL.quick 9 [0] [(0, .bool (false))] (by kernel_rfl) ?_
                  refine EL.done (by kernel_rfl) ?_
                  refine EQ.code ?_
                  refine EW.ret (by kernel_rfl) ?_
                  obtain rfl := Option.some.inj H
                  exact EQ.leave (.bool (false)) (by kernel_rfl) ⟨_, rfl, rfl, (hS.re [] [] rfl (sub_tail (sub_tail (sub_tail (sub_tail (sub_tail (sub_tail (sub_tail (sub_tail (sub_tail (sub_tail (sub_self))))))))))))⟩
                · rw [if_neg h2206] at H
                  refine EL.keep [1, 39] [(1, .slice (some ⟨g2181, 0, none⟩) l2182.length 3), (39, .bool (!(t2204)))] (by kernel_rfl) ?_
                  refine EL.as' [(1, .slice (some ⟨g2181, 0, none⟩) l2182.length 3), (39, .bool (true))] (by simp only [(Bool.eq_false_iff.2 h2206), Bool.not_true, Bool.not_false]) ?_
                  refine EL.quick 1 [1, 39, 40] [(1, .slice (some ⟨g2181, 0, none⟩) l2182.length 3), (39, .bool (true)), (40, .slice (some ⟨g2181, 0, none⟩) l2182.length 3)] (by kernel_rfl) ?_
                  have hS : St B _ (os) (Ro.sl (Kd.int .i64) (some ⟨g2181, 0, none⟩) 3 l2182 :: Ro.sl (Kd.int .i64) (some ⟨g2181, 0, none⟩) 3 l2182 :: Ro.sl (Kd.int .i64) (some ⟨g2181, 0, none⟩) 3 l2182 :: Ro.sl (Kd.int .i64) (some ⟨g2181, 0, none⟩) 3 l2182 :: Ro.sl (Kd.int .i64) (some ⟨g2181, 0, none⟩) 3 l2182 :: Ro.sl (Kd.int .i64) (some ⟨g2181, 0, none⟩) 3 l2182 :: Ro.sl (Kd.int .i64) none 0 ([] : List Int) :: Ro.sl (Kd.int .i64) none 0 ([] : List Int) :: Ro.sl (Kd.int .i64) (some ⟨g2181, 0, none⟩) 3 l2182 :: Ro.sl (Kd.int .i64) (some ⟨g2181, 0, none⟩) 3 l2182 :: Ro.sl (Kd.int .i64) (some ⟨g2181, 0, none⟩) 3 l2182 :: rs) := hS.re [] [] rfl (sub_cons 0 rfl sub_self)
                  obtain ⟨t2207, hc2208, H⟩ := b1_out H
                  refine EL.of (EO.callD 34 [.slice (some ⟨g2181, 0, none⟩) l2182.length 3, .int .i64 2] _ 41 (by kernel_rfl) (by kernel_rfl) (by kernel_rfl) (table_All.calls hc2208 hS) ?_)
                  rintro v w ⟨rfl, hS⟩
                  refine EL.quick 2 [1, 43] [(1, .slice (some ⟨g2181, 0, none⟩) l2182.length 3), (43, .bool (t2207))] (by kernel_rfl) ?_
                  by_cases h2209 : t2207 = true
                  · rw [if_pos h2209] at H
                    refine EL.keep [1, 43] [(1, .slice (some ⟨g2181, 0, none⟩) l2182.length 3), (43, .bool (t2207))] (by kernel_rfl) ?_
                    refine EL.as' [(1, .slice (some ⟨g2181, 0, none⟩) l2182.length 3), (43, .bool (true))] (by simp only [h2209, Bool.not_true, Bool.not_false]) ?_
                    refine EL.quick 1 [43, 44] [(43, .bool (true)), (44, .slice (some ⟨g2181, 0, none⟩) l2182.length 3)] (by kernel_rfl) ?_
                    have hS : St B _ (os) (Ro.sl (Kd.int .i64) (some ⟨g2181, 0, none⟩) 3 l2182 :: Ro.sl (Kd.int .i64) (some ⟨g2181, 0, none⟩) 3 l2182 :: Ro.sl (Kd.int .i64) (some ⟨g2181, 0, none⟩) 3 l2182 :: Ro.sl (Kd.int .i64) (some ⟨g2181, 0, none⟩) 3 l2182 :: Ro.sl (Kd.int .i64) (some ⟨g2181, 0, none⟩) 3 l2182 :: Ro.sl (Kd.int .i64) (some ⟨g2181, 0, none⟩) 3 l2182 :: Ro.sl (Kd.int .i64) (some ⟨g2181, 0, none⟩) 3 l2182 :: Ro.sl (Kd.int .i64) none 0 ([] : List Int) :: Ro.sl (Kd.int .i64) none 0 ([] : List Int) :: Ro.sl (Kd.int .i64) (some ⟨g2181, 0, none⟩) 3 l2182 :: Ro.sl (Kd.int .i64) (some ⟨g2181, 0, none⟩) 3 l2182 :: Ro.sl (Kd.int .i64) (some ⟨g2181, 0, none⟩) 3 l2182 :: rs) := hS.re [] [] rfl (sub_cons 0 rfl sub_self)
                    obtain ⟨t2210, hc2211, H⟩ := b1_out H
                    refine EL.of (EO.callD 34 [.slice (some ⟨g2181, 0, none⟩) l2182.length 3, .int .i64 3] _ 45 (by kernel_rfl) (by kernel_rfl) (by kernel_rfl) (table_All.calls hc2211 hS) ?_)
                    rintro v w ⟨rfl, hS⟩
                    refine EL.quick 3 [0] [(0, .bool (!(t2210)))] (by kernel_rfl) ?_
                    refine EL.done (by kernel_rfl) ?_
                    refine EQ.code ?_
                    refine EW.ret (by kernel_rfl) ?_
                    obtain rfl := Option.some.inj H
                    exact EQ.leave (.bool (!(t2210))) (by kernel_rfl) ⟨_, rfl, rfl, (hS.re [] [] rfl (sub_tail (sub_tail (sub_tail (sub_tail (sub_tail (sub_tail (sub_tail (sub_tail (sub_tail (sub_tail (sub_tail (sub_tail (sub_self))))))))))))))⟩
                  · rw [if_neg h2209] at H
                    refine EL.keep [1, 43] [(1, .slice (some ⟨g2181, 0, none⟩) l2182.length 3), (43, .bool (t2207))] (by kernel_rfl) ?_
                    refine EL.as' [(1, .slice (some ⟨g2181, 0, none⟩) l2182.length 3), (43, .bool (false))] (by simp only [(Bool.eq_false_iff.2 h2209), Bool.not_true, Bool.not_false]) ?_
                    refine EL.quick 5 [0] [(0, .bool (false))] (by kernel_rfl) ?_
                    refine EL.done (by kernel_rfl) ?_
                    refine EQ.code ?_
                    refine EW.ret (by kernel_rfl) ?_
                    obtain rfl := Option.some.inj H
                    exact EQ.leave (.bool (false)) (by kernel_rfl) ⟨_, rfl, rfl, (hS.re [] [] rfl (sub_tail (sub_tail (sub_tail (sub_tail (sub_tail (sub_tail (sub_tail (sub_tail (sub_tail (sub_tail (sub_tail (sub_self)))))))))))))⟩
              · rw [if_neg h2203] at H
                refine EL.keep [1, 34] [(1, .slice (some ⟨g2181, 0, none⟩) l2182.length 3), (34, .bool (t2201))] (by kernel_rfl) ?_
                refine EL.as' [(1, .slice (some ⟨g2181, 0, none⟩) l2182.length 3), (34, .bool (false))] (by simp only [(Bool.eq_false_iff.2 h2203), Bool.not_true, Bool.not_false]) ?_
                refine EL.quick 14 [0] [(0, .bool (false))] (by kernel_rfl) ?_
                refine EL.done (by kernel_rfl) ?_
                refine EQ.code ?_
                refine EW.ret (by kernel_rfl) ?_
                obtain rfl := Option.some.inj H
                exact EQ.leave (.bool (false)) (by kernel_rfl) ⟨_, rfl, rfl, (hS.re [] [] rfl (sub_tail (sub_tail (sub_tail (sub_tail (sub_tail (sub_tail (sub_tail (sub_tail (sub_tail (sub_self)))))))))))⟩
            · rw [if_neg h2200] at H
              refine EL.keep [1, 30] [(1, .slice (some ⟨g2181, 0, none⟩) l2182.length 3), (30, .bool (decide (t2198 = 4)))] (by kernel_rfl) ?_
              refine EL.as' [(1, .slice (some ⟨g2181, 0, none⟩) l2182.length 3), (30, .bool (false))] (by simp only [dec_f h2200, Bool.not_true, Bool.not_false]) ?_
              refine EL.quick 18 [0] [(0, .bool (false))] (by kernel_rfl) ?_
              refine EL.done (by kernel_rfl) ?_
              refine EQ.code ?_
              refine EW.ret (by kernel_rfl) ?_
              obtain rfl := Option.some.inj H
              exact EQ.leave (.bool (false)) (by kernel_rfl) ⟨_, rfl, rfl, (hS.re [] [] rfl (sub_tail (sub_tail (sub_tail (sub_tail (sub_tail (sub_tail (sub_tail (sub_tail (sub_self))))))))))⟩
          · rw [if_neg h2197] at H
            refine EL.keep [1, 25] [(1, .slice (some ⟨g2181, 0, none⟩) l2182.length 3), (25, .bool (decide (t2195 = (-1))))] (by kernel_rfl) ?_
            refine EL.as' [(1, .slice (some ⟨g2181, 0, none⟩) l2182.length 3), (25, .bool (false))] (by simp only [dec_f h2197, Bool.not_true, Bool.not_false]) ?_
            refine EL.quick 23 [0] [(0, .bool (false))] (by kernel_rfl) ?_
            refine EL.done (by kernel_rfl) ?_
            refine EQ.code ?_
            refine EW.ret (by kernel_rfl) ?_
            obtain rfl := Option.some.inj H
            exact EQ.leave (.bool (false)) (by kernel_rfl) ⟨_, rfl, rfl, (hS.re [] [] rfl (sub_tail (sub_tail (sub_tail (sub_tail (sub_tail (sub_tail (sub_tail (sub_self)))))))))⟩
        · rw [if_neg h2194] at H
          refine EL.keep [1, 20] [(1, .slice (some ⟨g2181, 0, none⟩) l2182.length 3), (20, .bool (decide (t2192 = 4)))] (by kernel_rfl) ?_
          refine EL.as' [(1, .slice (some ⟨g2181, 0, none⟩) l2182.length 3), (20, .bool (false))] (by simp only [dec_f h2194, Bool.not_true, Bool.not_false]) ?_
          refine EL.quick 28 [0] [(0, .bool (false))] (by kernel_rfl) ?_
          refine EL.done (by kernel_rfl) ?_
          refine EQ.code ?_
          refine EW.ret (by kernel_rfl) ?_
          obtain rfl := Option.some.inj H
          exact EQ.leave (.bool (false)) (by kernel_rfl) ⟨_, rfl, rfl, (hS.re [] [] rfl (sub_tail (sub_tail (sub_tail (sub_tail (sub_tail (sub_tail (sub_self))))))))⟩
      · rw [if_neg h2191] at H
        refine EL.keep [1, 15] [(1, .slice (some ⟨g2181, 0, none⟩) l2182.length 3), (15, .bool (decide (t2189 = (-1))))] (by kernel_rfl) ?_
        refine EL.as' [(1, .slice (some ⟨g2181, 0, none⟩) l2182.length 3), (15, .bool (false))] (by simp only [dec_f h2191, Bool.not_true, Bool.not_false]) ?_
        refine EL.quick 33 [0] [(0, .bool (false))] (by kernel_rfl) ?_
        refine EL.done (by kernel_rfl) ?_
        refine EQ.code ?_
        refine EW.ret (by kernel_rfl) ?_
        obtain rfl := Option.some.inj H
        exact EQ.leave (.bool (false)) (by kernel_rfl) ⟨_, rfl, rfl, (hS.re [] [] rfl (sub_tail (sub_tail (sub_tail (sub_tail (sub_tail (sub_self)))))))⟩
    · rw [if_neg h2188] at H
      refine EL.keep [1, 11] [(1, .slice (some ⟨g2181, 0, none⟩) l2182.length 3), (11, .bool (decide (t2186 = 0)))] (by kernel_rfl) ?_
      refine EL.as' [(1, .slice (some ⟨g2181, 0, none⟩) l2182.length 3), (11, .bool (false))] (by simp only [dec_f h2188, Bool.not_true, Bool.not_false]) ?_
      refine EL.quick 37 [0] [(0, .bool (false))] (by kernel_rfl) ?_
      refine EL.done (by kernel_rfl) ?_
      refine EQ.code ?_
      refine EW.ret (by kernel_rfl) ?_
      obtain rfl := Option.some.inj H
      exact EQ.leave (.bool (false)) (by kernel_rfl) ⟨_, rfl, rfl, (hS.re [] [] rfl (sub_tail (sub_tail (sub_tail (sub_self)))))⟩
  · rw [if_neg h2185] at H
    refine EL.keep [1, 6] [(1, .slice (some ⟨g2181, 0, none⟩) l2182.length 3), (6, .bool (decide (t2183 = 1)))] (by kernel_rfl) ?_
    refine EL.as' [(1, .slice (some ⟨g2181, 0, none⟩) l2182.length 3), (6, .bool (false))] (by simp only [dec_f h2185, Bool.not_true, Bool.not_false]) ?_
    refine EL.quick 42 [0] [(0, .bool (false))] (by kernel_rfl) ?_
    refine EL.done (by kernel_rfl) ?_
    refine EQ.code ?_
    refine EW.ret (by kernel_rfl) ?_
    obtain rfl := Option.some.inj H
    exact EQ.leave (.bool (false)) (by kernel_rfl) ⟨_, rfl, rfl, (hS.re [] [] rfl (sub_tail (sub_tail (sub_self))))⟩

/-! ### confidant/confidantref15.TableRight: function 33 -/
def confidantref15_TableRight.l0 (K : Nat) (l2582 : List Int) (a2585 : Int) (j2974 : Option Bool) : Nat → Int → Option Bool
  | 0, _ => none
  | n + 1, x2997 => if x2997 < (l2582.length : Int) then (lt (fun (x3046 : Bool) => (if x3046 = true then (some false) else (confidantref15_TableRight.l0 K l2582 a2585 j2974 n (IntKind.i64.wrap (x2997 + 1))))) fun j3047 => (if 0 ≤ x2997 then (if (l2582.getD x2997.toNat 0) < 0 then (j3047 true) else (j3047 (decide ((l2582.getD x2997.toNat 0) ≥ a2585)))) else none)) else (j2974)
def confidantref15_TableRight.f (K : Nat) (l2582 : List Int) (a2585 : Int) : Option Bool := lt (if (l2582.length : Int) ≥ 1 then (some (decide ((l2582.length : Int) ≤ 64))) else (some false)) fun j2974 => (confidantref15_TableRight.l0 K l2582 a2585 j2974 K 0)
set_option maxRecDepth 100000 in
theorem confidantref15_TableRight.calls {K : Nat} {l2582 : List Int} {a2585 : Int} {A2583 : Option Addr} {C2584 : Nat} {x2819 : Bool} {B w : World} {os : List Ass} {rs : List Ro} (H : confidantref15_TableRight.f K l2582 a2585 = some x2819) (hS : St B w (os) (Ro.sl (Kd.int .i64) A2583 C2584 l2582 :: rs)) :
    Calls Try.prog 33 [.slice A2583 l2582.length C2584, .int .i64 a2585].toArray w (fun en w' => ∃ v, en = .returned v ∧ v = .bool (x2819) ∧ St B w' (os) (Ro.sl (Kd.int .i64) A2583 C2584 l2582 :: rs)) := by
  unfold confidantref15_TableRight.f at H
  refine calls_of_EW (args := [.slice A2583 l2582.length C2584, .int .i64 a2585]) (c := C33) 33 Try.func33 (by kernel_rfl) (by kernel_rfl) (by kernel_rfl) ?_
  refine EW.seq (x := C33.l) (y := C33.r) (by kernel_rfl) ?_
  refine EW.region (id := 0) (ops := C33.l.ops) (by kernel_rfl) ?_
  refine EL.quick 1 [0, 1] [(0, .slice A2583 l2582.length C2584), (1, .int .i64 a2585)] (by kernel_rfl) ?_
  refine EL.done (by kernel_rfl) ?_
  refine EQ.code ?_
  obtain ⟨j2974, hj2974, H⟩ := lt_out H
  refine EW.cut (x := C33.r.l) (y := C33.r.r) (fun a w => Sat 33 [(0, .slice A2583 l2582.length C2584)] a ∧ St B w (os) (Ro.sl (Kd.int .i64) A2583 C2584 l2582 :: rs) ∧ j2974 = some x2819) (by kernel_rfl) ?_ (fun a w hI => ?_)
  · refine EW.seq (x := C33.r.l.l) (y := C33.r.l.r) (by kernel_rfl) ?_
    refine EW.region (id := 1) (ops := C33.r.l.l.ops) (by kernel_rfl) ?_
    refine EL.quick 1 [0, 1, 5] [(0, .slice A2583 l2582.length C2584), (1, .int .i64 a2585), (5, .int .i64 0)] (by kernel_rfl) ?_
    refine EL.done (by kernel_rfl) ?_
    refine EQ.code ?_
    refine EW.block (x := C33.r.l.r.l) (id := 0) (by kernel_rfl) ?_
    refine EW.loop (x := C33.r.l.r.l.l) (fun n a w => ∃ x2997 : Int, Sat 33 [(0, .slice A2583 l2582.length C2584), (1, .int .i64 a2585), (5, .int .i64 x2997)] a ∧ St B w (os) (Ro.sl (Kd.int .i64) A2583 C2584 l2582 :: rs) ∧ confidantref15_TableRight.l0 K l2582 a2585 j2974 n x2997 = some x2819) K (by kernel_rfl) ?_ (fun n a w hI => ?_)
    · refine EQ.keep [0, 1, 5] [(0, .slice A2583 l2582.length C2584), (1, .int .i64 a2585), (5, .int .i64 0)] (by kernel_rfl) ?_
      exact fun a ha => ⟨0, ha, (hS.re [] [] rfl (sub_cons 0 rfl (sub_tail (sub_self)))), H⟩
    · obtain ⟨x2997, ha, hS, H⟩ := hI
      obtain _ | n := n
      · simp [confidantref15_TableRight.l0] at H
      rw [confidantref15_TableRight.l0.eq_2] at H
      refine EW.at ?_ a ha
      clear ha a
      refine EW.seq (x := C33.r.l.r.l.l.l) (y := C33.r.l.r.l.l.r) (by kernel_rfl) ?_
      refine EW.seq (x := C33.r.l.r.l.l.l.l) (y := C33.r.l.r.l.l.l.r) (by kernel_rfl) ?_
      refine EW.region (id := 2) (ops := C33.r.l.r.l.l.l.l.ops) (by kernel_rfl) ?_
      refine EL.quick 4 [0, 1, 5, 9] [(0, .slice A2583 l2582.length C2584), (1, .int .i64 a2585), (5, .int .i64 x2997), (9, .bool (decide (x2997 < (l2582.length : Int))))] (by kernel_rfl) ?_
      refine EL.done (by kernel_rfl) ?_
      refine EQ.code ?_
      refine EW.condP (o := (.tmp 9)) (x := C33.r.l.r.l.l.l.r.l) (y := C33.r.l.r.l.l.l.r.r) (x2997 < (l2582.length : Int)) (by kernel_rfl) (by kernel_rfl) (fun h3027 => ?_) (fun h3027 => ?_)
      · rw [if_pos h3027] at H
        refine EW.skip (by kernel_rfl) ?_
        refine EQ.code ?_
        refine EW.seq (x := C33.r.l.r.l.l.r.l) (y := C33.r.l.r.l.l.r.r) (by kernel_rfl) ?_
        refine EW.block (x := C33.r.l.r.l.l.r.l.l) (id := 1) (by kernel_rfl) ?_
        obtain ⟨j3047, hj3047, H⟩ := lt_out H
        refine EW.cut (x := C33.r.l.r.l.l.r.l.l.l) (y := C33.r.l.r.l.l.r.l.l.r) (fun a w => ∃ x3046 : Bool, Sat 33 [(0, .slice A2583 l2582.length C2584), (1, .int .i64 a2585), (5, .int .i64 x2997), (24, .bool (x3046))] a ∧ St B w (os) (Ro.sl (Kd.int .i64) A2583 C2584 l2582 :: rs) ∧ j3047 x3046 = some x2819) (by kernel_rfl) ?_ (fun a w hI => ?_)
        · refine EW.region (id := 4) (ops := C33.r.l.r.l.l.r.l.l.l.ops) (by kernel_rfl) ?_
          refine EL.quick 2 [0, 1, 5, 12, 13] [(0, .slice A2583 l2582.length C2584), (1, .int .i64 a2585), (5, .int .i64 x2997), (12, .slice A2583 l2582.length C2584), (13, .int .i64 x2997)] (by kernel_rfl) ?_
          obtain ⟨h3048, H⟩ := ite_in H
          obtain ⟨ad3049, rfl⟩ := St.rd_some hS (Rd.ro 0 rfl) h3048 h3027
          refine EL.of (EO.Y (YO.idx 24 1 ad3049 l2582.length C2584 .i64 x2997 14 (by kernel_rfl) (by kernel_rfl) (by kernel_rfl) (by kernel_rfl) h3048 h3027) ?_)
          refine EL.of (EO.Y (YO.loadEl hS (Kd.int .i64) ad3049 C2584 l2582 (Rd.ro 0 rfl) 0 (encI .i64) encI_of x2997 h3048 h3027 3 1 0 1 rfl (.int .i64 (l2582.getD x2997.toNat 0)) 15 (by kernel_rfl) (by kernel_rfl) (by kernel_rfl) (by kernel_rfl)) ?_)
          refine EL.quick 2 [0, 1, 5, 17] [(0, .slice (some ad3049) l2582.length C2584), (1, .int .i64 a2585), (5, .int .i64 x2997), (17, .bool (decide ((l2582.getD x2997.toNat 0) < 0)))] (by kernel_rfl) ?_
          by_cases h3050 : (l2582.getD x2997.toNat 0) < 0
          · rw [if_pos h3050] at H
            refine EL.keep [0, 1, 5, 17] [(0, .slice (some ad3049) l2582.length C2584), (1, .int .i64 a2585), (5, .int .i64 x2997), (17, .bool (decide ((l2582.getD x2997.toNat 0) < 0)))] (by kernel_rfl) ?_
            refine EL.as' [(0, .slice (some ad3049) l2582.length C2584), (1, .int .i64 a2585), (5, .int .i64 x2997), (17, .bool (true))] (by simp only [dec_t h3050, Bool.not_true, Bool.not_false]) ?_
            refine EL.quick 7 [0, 1, 5, 24] [(0, .slice (some ad3049) l2582.length C2584), (1, .int .i64 a2585), (5, .int .i64 x2997), (24, .bool (true))] (by kernel_rfl) ?_
            refine EL.done (by kernel_rfl) ?_
            refine EQ.to ?_
            refine EQ.keep [0, 1, 5, 24] [(0, .slice (some ad3049) l2582.length C2584), (1, .int .i64 a2585), (5, .int .i64 x2997), (24, .bool (true))] (by kernel_rfl) ?_
            exact fun a ha => ⟨true, ha, (hS.re [] [] rfl (sub_cons 0 rfl (sub_tail (sub_self)))), H⟩
          · rw [if_neg h3050] at H
            refine EL.keep [0, 1, 5, 17] [(0, .slice (some ad3049) l2582.length C2584), (1, .int .i64 a2585), (5, .int .i64 x2997), (17, .bool (decide ((l2582.getD x2997.toNat 0) < 0)))] (by kernel_rfl) ?_
            refine EL.as' [(0, .slice (some ad3049) l2582.length C2584), (1, .int .i64 a2585), (5, .int .i64 x2997), (17, .bool (false))] (by simp only [dec_f h3050, Bool.not_true, Bool.not_false]) ?_
            refine EL.quick 2 [0, 1, 5, 17, 18, 19] [(0, .slice (some ad3049) l2582.length C2584), (1, .int .i64 a2585), (5, .int .i64 x2997), (17, .bool (false)), (18, .slice (some ad3049) l2582.length C2584), (19, .int .i64 x2997)] (by kernel_rfl) ?_
            refine EL.of (EO.Y (YO.idx 24 1 ad3049 l2582.length C2584 .i64 x2997 20 (by kernel_rfl) (by kernel_rfl) (by kernel_rfl) (by kernel_rfl) h3048 h3027) ?_)
            refine EL.of (EO.Y (YO.loadEl hS (Kd.int .i64) ad3049 C2584 l2582 (Rd.ro 0 rfl) 0 (encI .i64) encI_of x2997 h3048 h3027 3 1 0 1 rfl (.int .i64 (l2582.getD x2997.toNat 0)) 21 (by kernel_rfl) (by kernel_rfl) (by kernel_rfl) (by kernel_rfl)) ?_)
            refine EL.quick 3 [0, 1, 5, 18, 19, 20, 21, 22, 23, 24] [(0, .slice (some ad3049) l2582.length C2584), (1, .int .i64 a2585), (5, .int .i64 x2997), (18, .slice (some ad3049) l2582.length C2584), (19, .int .i64 x2997), (20, .pointer (some ((ad3049.add (x2997.toNat * 1)).add 0))), (21, .int .i64 (l2582.getD x2997.toNat 0)), (22, .int .i64 a2585), (23, .bool (decide ((l2582.getD x2997.toNat 0) ≥ a2585))), (24, .bool (decide ((l2582.getD x2997.toNat 0) ≥ a2585)))] (by kernel_rfl) ?_
            refine EL.done (by kernel_rfl) ?_
            refine EQ.to ?_
            refine EQ.keep [0, 1, 5, 24] [(0, .slice (some ad3049) l2582.length C2584), (1, .int .i64 a2585), (5, .int .i64 x2997), (24, .bool (decide ((l2582.getD x2997.toNat 0) ≥ a2585)))] (by kernel_rfl) ?_
            exact fun a ha => ⟨decide ((l2582.getD x2997.toNat 0) ≥ a2585), ha, (hS.re [] [] rfl (sub_cons 0 rfl (sub_tail (sub_self)))), H⟩
        · obtain ⟨x3046, ha, hS, H⟩ := hI
          rw [hj3047] at H
          (try dsimp only at H)
          refine EW.at ?_ a ha
          clear ha a
          refine EW.condP' (o := (.tmp 24)) (x := C33.r.l.r.l.l.r.l.l.r.l) (y := C33.r.l.r.l.l.r.l.l.r.r) (x3046) (by kernel_rfl) (by kernel_rfl) (fun h3051 => ?_) (fun h3051 => ?_)
          · rw [if_pos h3051] at H
            refine EW.seq (x := C33.r.l.r.l.l.r.l.l.r.l.l) (y := C33.r.l.r.l.l.r.l.l.r.l.r) (by kernel_rfl) ?_
            refine EW.region (id := 5) (ops := C33.r.l.r.l.l.r.l.l.r.l.l.ops) (by kernel_rfl) ?_
            refine EL.quick 1 [4] [(4, .bool (false))] (by kernel_rfl) ?_
            refine EL.done (by kernel_rfl) ?_
            refine EQ.code ?_
            refine EW.ret (by kernel_rfl) ?_
            refine EQ.ret ?_
            refine EQ.ret ?_
            refine EQ.ret ?_
            refine EQ.ret ?_
            refine EQ.ret ?_
            obtain rfl := Option.some.inj H
            exact EQ.leave (.bool (false)) (by kernel_rfl) ⟨_, rfl, rfl, (hS.re [] [] rfl (sub_self))⟩
          · rw [if_neg h3051] at H
            refine EW.skip (by kernel_rfl) ?_
            refine EQ.pop ?_
            refine EQ.code ?_
            refine EW.region (id := 3) (ops := C33.r.l.r.l.l.r.r.ops) (by kernel_rfl) ?_
            refine EL.quick 3 [0, 1, 5] [(0, .slice A2583 l2582.length C2584), (1, .int .i64 a2585), (5, .int .i64 (IntKind.i64.wrap (x2997 + 1)))] (by kernel_rfl) ?_
            refine EL.done (by kernel_rfl) ?_
            refine EQ.to ?_
            refine EQ.keep [0, 1, 5] [(0, .slice A2583 l2582.length C2584), (1, .int .i64 a2585), (5, .int .i64 (IntKind.i64.wrap (x2997 + 1)))] (by kernel_rfl) ?_
            exact fun a ha => ⟨n, Nat.lt_succ_self n, IntKind.i64.wrap (x2997 + 1), ha, (hS.re [] [] rfl (sub_cons 0 rfl (sub_tail (sub_self)))), H⟩
      · rw [if_neg h3027] at H
        refine EW.exit (id := 0) (by kernel_rfl) ?_
        refine EQ.exitCode ?_
        refine EQ.exitTo ?_
        refine EQ.exitHere ?_
        refine EQ.to ?_
        refine EQ.keep [0] [(0, .slice A2583 l2582.length C2584)] (by kernel_rfl) ?_
        exact fun a ha => ⟨ha, (hS.re [] [] rfl (sub_cons 0 rfl (sub_tail (sub_self)))), H⟩
  · obtain ⟨ha, hS, H⟩ := hI
    rw [hj2974] at H
    (try dsimp only at H)
    refine EW.at ?_ a ha
    clear ha a
    refine EW.seq (x := C33.r.r.l) (y := C33.r.r.r) (by kernel_rfl) ?_
    refine EW.region (id := 6) (ops := C33.r.r.l.ops) (by kernel_rfl) ?_
    refine EL.quick 4 [0, 28] [(0, .slice A2583 l2582.length C2584), (28, .bool (decide ((l2582.length : Int) ≥ 1)))] (by kernel_rfl) ?_
    by_cases h3052 : (l2582.length : Int) ≥ 1
    · rw [if_pos h3052] at H
      refine EL.keep [0, 28] [(0, .slice A2583 l2582.length C2584), (28, .bool (decide ((l2582.length : Int) ≥ 1)))] (by kernel_rfl) ?_
      refine EL.as' [(0, .slice A2583 l2582.length C2584), (28, .bool (true))] (by simp only [dec_t h3052, Bool.not_true, Bool.not_false]) ?_
      refine EL.quick 5 [4] [(4, .bool (decide ((l2582.length : Int) ≤ 64)))] (by kernel_rfl) ?_
      refine EL.done (by kernel_rfl) ?_
      refine EQ.code ?_
      refine EW.ret (by kernel_rfl) ?_
      obtain rfl := Option.some.inj H
      exact EQ.leave (.bool (decide ((l2582.length : Int) ≤ 64))) (by kernel_rfl) ⟨_, rfl, rfl, (hS.re [] [] rfl (sub_self))⟩
    · rw [if_neg h3052] at H
      refine EL.keep [0, 28] [(0, .slice A2583 l2582.length C2584), (28, .bool (decide ((l2582.length : Int) ≥ 1)))] (by kernel_rfl) ?_
      refine EL.as' [(0, .slice A2583 l2582.length C2584), (28, .bool (false))] (by simp only [dec_f h3052, Bool.not_true, Bool.not_false]) ?_
      refine EL.quick 5 [4] [(4, .bool (false))] (by kernel_rfl) ?_
      refine EL.done (by kernel_rfl) ?_
      refine EQ.code ?_
      refine EW.ret (by kernel_rfl) ?_
      obtain rfl := Option.some.inj H
      exact EQ.leave (.bool (false)) (by kernel_rfl) ⟨_, rfl, rfl, (hS.re [] [] rfl (sub_self))⟩

/-! ### confidant/confidantref15.TableAll: function 35 -/
def confidantref15_TableAll.l1 (K : Nat) (l3058 : List Int) (x9206 : Int) (j9931 : Bool → Option Bool) : Nat → Bool → Int → Option Bool
  | 0, _, _ => none
  | n + 1, x9940, x9941 => if x9941 < (l3058.length : Int) then (lt (fun (x9967 : Bool) => (confidantref15_TableAll.l1 K l3058 x9206 j9931 n x9967 (IntKind.i64.wrap (x9941 + 1)))) fun j9968 => (if x9940 = true then (j9968 true) else (if 0 ≤ x9941 then (j9968 (decide ((l3058.getD x9941.toNat 0) = x9206))) else none))) else (j9931 x9940)
def confidantref15_TableAll.l0 (K : Nat) (l3058 : List Int) (j8821 : Option Bool) (a3061 : Int) : Nat → Int → Option Bool
  | 0, _ => none
  | n + 1, x9206 => lt (fun (x9599 : Bool) => (if x9599 = true then (lt (confidantref15_TableAll.l0 K l3058 j8821 a3061 n (IntKind.i64.wrap (x9206 + 1))) fun j9849 => (lt (fun (x9930 : Bool) => (if x9930 = true then (j9849) else (some false))) fun j9931 => (confidantref15_TableAll.l1 K l3058 x9206 j9931 K false 0))) else (j8821))) fun j9600 => (if x9206 < a3061 then (j9600 (decide (x9206 < 65))) else (j9600 false))
def confidantref15_TableAll.f (K : Nat) (l3058 : List Int) (a3061 : Int) : Option Bool := lt (b1 (confidantref15_TableRight.f K l3058 a3061) fun (t9973 : Bool) => (some t9973)) fun j8821 => (confidantref15_TableAll.l0 K l3058 j8821 a3061 K 0)
set_option maxRecDepth 100000 in
theorem confidantref15_TableAll.calls {K : Nat} {l3058 : List Int} {a3061 : Int} {A3059 : Option Addr} {C3060 : Nat} {x6518 : Bool} {B w : World} {os : List Ass} {rs : List Ro} (H : confidantref15_TableAll.f K l3058 a3061 = some x6518) (hS : St B w (os) (Ro.sl (Kd.int .i64) A3059 C3060 l3058 :: rs)) :
    Calls Try.prog 35 [.slice A3059 l3058.length C3060, .int .i64 a3061].toArray w (fun en w' => ∃ v, en = .returned v ∧ v = .bool (x6518) ∧ St B w' (os) (Ro.sl (Kd.int .i64) A3059 C3060 l3058 :: rs)) := by
  unfold confidantref15_TableAll.f at H
  refine calls_of_EW (args := [.slice A3059 l3058.length C3060, .int .i64 a3061]) (c := C35) 37 Try.func35 (by kernel_rfl) (by kernel_rfl) (by kernel_rfl) ?_
  refine EW.seq (x := C35.l) (y := C35.r) (by kernel_rfl) ?_
  refine EW.region (id := 0) (ops := C35.l.ops) (by kernel_rfl) ?_
  refine EL.quick 1 [0, 1] [(0, .slice A3059 l3058.length C3060), (1, .int .i64 a3061)] (by kernel_rfl) ?_
  refine EL.done (by kernel_rfl) ?_
  refine EQ.code ?_
  obtain ⟨j8821, hj8821, H⟩ := lt_out H
  refine EW.cut (x := C35.r.l) (y := C35.r.r) (fun a w => Sat 37 [(0, .slice A3059 l3058.length C3060), (1, .int .i64 a3061)] a ∧ St B w (os) (Ro.sl (Kd.int .i64) A3059 C3060 l3058 :: rs) ∧ j8821 = some x6518) (by kernel_rfl) ?_ (fun a w hI => ?_)
  · refine EW.seq (x := C35.r.l.l) (y := C35.r.l.r) (by kernel_rfl) ?_
    refine EW.region (id := 1) (ops := C35.r.l.l.ops) (by kernel_rfl) ?_
    refine EL.quick 1 [0, 1, 5] [(0, .slice A3059 l3058.length C3060), (1, .int .i64 a3061), (5, .int .i64 0)] (by kernel_rfl) ?_
    refine EL.done (by kernel_rfl) ?_
    refine EQ.code ?_
    refine EW.block (x := C35.r.l.r.l) (id := 0) (by kernel_rfl) ?_
    refine EW.loop (x := C35.r.l.r.l.l) (fun n a w => ∃ x9206 : Int, Sat 37 [(0, .slice A3059 l3058.length C3060), (1, .int .i64 a3061), (5, .int .i64 x9206)] a ∧ St B w (os) (Ro.sl (Kd.int .i64) A3059 C3060 l3058 :: rs) ∧ confidantref15_TableAll.l0 K l3058 j8821 a3061 n x9206 = some x6518) K (by kernel_rfl) ?_ (fun n a w hI => ?_)
    · refine EQ.keep [0, 1, 5] [(0, .slice A3059 l3058.length C3060), (1, .int .i64 a3061), (5, .int .i64 0)] (by kernel_rfl) ?_
      exact fun a ha => ⟨0, ha, (hS.re [] [] rfl (sub_cons 0 rfl (sub_tail (sub_self)))), H⟩
    · obtain ⟨x9206, ha, hS, H⟩ := hI
      obtain _ | n := n
      · simp [confidantref15_TableAll.l0] at H
      rw [confidantref15_TableAll.l0.eq_2] at H
      refine EW.at ?_ a ha
      clear ha a
      refine EW.seq (x := C35.r.l.r.l.l.l) (y := C35.r.l.r.l.l.r) (by kernel_rfl) ?_
      obtain ⟨j9600, hj9600, H⟩ := lt_out H
      refine EW.cut (x := C35.r.l.r.l.l.l.l) (y := C35.r.l.r.l.l.l.r) (fun a w => ∃ x9599 : Bool, Sat 37 [(0, .slice A3059 l3058.length C3060), (1, .int .i64 a3061), (5, .int .i64 x9206), (14, .bool (x9599))] a ∧ St B w (os) (Ro.sl (Kd.int .i64) A3059 C3060 l3058 :: rs) ∧ j9600 x9599 = some x6518) (by kernel_rfl) ?_ (fun a w hI => ?_)
      · refine EW.region (id := 2) (ops := C35.r.l.r.l.l.l.l.ops) (by kernel_rfl) ?_
        refine EL.quick 4 [0, 1, 5, 11] [(0, .slice A3059 l3058.length C3060), (1, .int .i64 a3061), (5, .int .i64 x9206), (11, .bool (decide (x9206 < a3061)))] (by kernel_rfl) ?_
        by_cases h9601 : x9206 < a3061
        · rw [if_pos h9601] at H
          refine EL.keep [0, 1, 5, 11] [(0, .slice A3059 l3058.length C3060), (1, .int .i64 a3061), (5, .int .i64 x9206), (11, .bool (decide (x9206 < a3061)))] (by kernel_rfl) ?_
          refine EL.as' [(0, .slice A3059 l3058.length C3060), (1, .int .i64 a3061), (5, .int .i64 x9206), (11, .bool (true))] (by simp only [dec_t h9601, Bool.not_true, Bool.not_false]) ?_
          refine EL.quick 3 [0, 1, 5, 12, 13, 14] [(0, .slice A3059 l3058.length C3060), (1, .int .i64 a3061), (5, .int .i64 x9206), (12, .int .i64 x9206), (13, .bool (decide (x9206 < 65))), (14, .bool (decide (x9206 < 65)))] (by kernel_rfl) ?_
          refine EL.done (by kernel_rfl) ?_
          refine EQ.to ?_
          refine EQ.keep [0, 1, 5, 14] [(0, .slice A3059 l3058.length C3060), (1, .int .i64 a3061), (5, .int .i64 x9206), (14, .bool (decide (x9206 < 65)))] (by kernel_rfl) ?_
          exact fun a ha => ⟨decide (x9206 < 65), ha, (hS.re [] [] rfl (sub_cons 0 rfl (sub_tail (sub_self)))), H⟩
        · rw [if_neg h9601] at H
          refine EL.keep [0, 1, 5, 11] [(0, .slice A3059 l3058.length C3060), (1, .int .i64 a3061), (5, .int .i64 x9206), (11, .bool (decide (x9206 < a3061)))] (by kernel_rfl) ?_
          refine EL.as' [(0, .slice A3059 l3058.length C3060), (1, .int .i64 a3061), (5, .int .i64 x9206), (11, .bool (false))] (by simp only [dec_f h9601, Bool.not_true, Bool.not_false]) ?_
          refine EL.quick 3 [0, 1, 5, 14] [(0, .slice A3059 l3058.length C3060), (1, .int .i64 a3061), (5, .int .i64 x9206), (14, .bool (false))] (by kernel_rfl) ?_
          refine EL.done (by kernel_rfl) ?_
          refine EQ.to ?_
          refine EQ.keep [0, 1, 5, 14] [(0, .slice A3059 l3058.length C3060), (1, .int .i64 a3061), (5, .int .i64 x9206), (14, .bool (false))] (by kernel_rfl) ?_
          exact fun a ha => ⟨false, ha, (hS.re [] [] rfl (sub_cons 0 rfl (sub_tail (sub_self)))), H⟩
      · obtain ⟨x9599, ha, hS, H⟩ := hI
        rw [hj9600] at H
        (try dsimp only at H)
        refine EW.at ?_ a ha
        clear ha a
        refine EW.condP' (o := (.tmp 14)) (x := C35.r.l.r.l.l.l.r.l) (y := C35.r.l.r.l.l.l.r.r) (x9599) (by kernel_rfl) (by kernel_rfl) (fun h9602 => ?_) (fun h9602 => ?_)
        · rw [if_pos h9602] at H
          refine EW.skip (by kernel_rfl) ?_
          refine EQ.code ?_
          obtain ⟨j9849, hj9849, H⟩ := lt_out H
          refine EW.cut (x := C35.r.l.r.l.l.r.l) (y := C35.r.l.r.l.l.r.r) (fun a w => Sat 37 [(0, .slice A3059 l3058.length C3060), (1, .int .i64 a3061), (5, .int .i64 x9206)] a ∧ St B w (os) (Ro.sl (Kd.int .i64) A3059 C3060 l3058 :: rs) ∧ j9849 = some x6518) (by kernel_rfl) ?_ (fun a w hI => ?_)
          · refine EW.block (x := C35.r.l.r.l.l.r.l.l) (id := 1) (by kernel_rfl) ?_
            refine EW.seq (x := C35.r.l.r.l.l.r.l.l.l) (y := C35.r.l.r.l.l.r.l.l.r) (by kernel_rfl) ?_
            refine EW.region (id := 4) (ops := C35.r.l.r.l.l.r.l.l.l.ops) (by kernel_rfl) ?_
            refine EL.quick 1 [0, 1, 5, 6] [(0, .slice A3059 l3058.length C3060), (1, .int .i64 a3061), (5, .int .i64 x9206), (6, .bool (false))] (by kernel_rfl) ?_
            refine EL.done (by kernel_rfl) ?_
            refine EQ.code ?_
            obtain ⟨j9931, hj9931, H⟩ := lt_out H
            refine EW.cut (x := C35.r.l.r.l.l.r.l.l.r.l) (y := C35.r.l.r.l.l.r.l.l.r.r) (fun a w => ∃ x9930 : Bool, Sat 37 [(0, .slice A3059 l3058.length C3060), (1, .int .i64 a3061), (5, .int .i64 x9206), (6, .bool (x9930))] a ∧ St B w (os) (Ro.sl (Kd.int .i64) A3059 C3060 l3058 :: rs) ∧ j9931 x9930 = some x6518) (by kernel_rfl) ?_ (fun a w hI => ?_)
            · refine EW.seq (x := C35.r.l.r.l.l.r.l.l.r.l.l) (y := C35.r.l.r.l.l.r.l.l.r.l.r) (by kernel_rfl) ?_
              refine EW.region (id := 5) (ops := C35.r.l.r.l.l.r.l.l.r.l.l.ops) (by kernel_rfl) ?_
              refine EL.quick 1 [0, 1, 5, 6, 7] [(0, .slice A3059 l3058.length C3060), (1, .int .i64 a3061), (5, .int .i64 x9206), (6, .bool (false)), (7, .int .i64 0)] (by kernel_rfl) ?_
              refine EL.done (by kernel_rfl) ?_
              refine EQ.code ?_
              refine EW.block (x := C35.r.l.r.l.l.r.l.l.r.l.r.l) (id := 2) (by kernel_rfl) ?_
              refine EW.loop (x := C35.r.l.r.l.l.r.l.l.r.l.r.l.l) (fun n a w => ∃ x9940 : Bool, ∃ x9941 : Int, Sat 37 [(0, .slice A3059 l3058.length C3060), (1, .int .i64 a3061), (5, .int .i64 x9206), (6, .bool (x9940)), (7, .int .i64 x9941)] a ∧ St B w (os) (Ro.sl (Kd.int .i64) A3059 C3060 l3058 :: rs) ∧ confidantref15_TableAll.l1 K l3058 x9206 j9931 n x9940 x9941 = some x6518) K (by kernel_rfl) ?_ (fun n a w hI => ?_)
              · refine EQ.keep [0, 1, 5, 6, 7] [(0, .slice A3059 l3058.length C3060), (1, .int .i64 a3061), (5, .int .i64 x9206), (6, .bool (false)), (7, .int .i64 0)] (by kernel_rfl) ?_
                exact fun a ha => ⟨false, 0, ha, (hS.re [] [] rfl (sub_cons 0 rfl (sub_tail (sub_self)))), H⟩
              · obtain ⟨x9940, x9941, ha, hS, H⟩ := hI
                obtain _ | n := n
                · simp [confidantref15_TableAll.l1] at H
                rw [confidantref15_TableAll.l1.eq_2] at H
                refine EW.at ?_ a ha
                clear ha a
                refine EW.seq (x := C35.r.l.r.l.l.r.l.l.r.l.r.l.l.l) (y := C35.r.l.r.l.l.r.l.l.r.l.r.l.l.r) (by kernel_rfl) ?_
                refine EW.seq (x := C35.r.l.r.l.l.r.l.l.r.l.r.l.l.l.l) (y := C35.r.l.r.l.l.r.l.l.r.l.r.l.l.l.r) (by kernel_rfl) ?_
                refine EW.region (id := 6) (ops := C35.r.l.r.l.l.r.l.l.r.l.r.l.l.l.l.ops) (by kernel_rfl) ?_
                refine EL.quick 4 [0, 1, 5, 6, 7, 20] [(0, .slice A3059 l3058.length C3060), (1, .int .i64 a3061), (5, .int .i64 x9206), (6, .bool (x9940)), (7, .int .i64 x9941), (20, .bool (decide (x9941 < (l3058.length : Int))))] (by kernel_rfl) ?_
                refine EL.done (by kernel_rfl) ?_
                refine EQ.code ?_
                refine EW.condP (o := (.tmp 20)) (x := C35.r.l.r.l.l.r.l.l.r.l.r.l.l.l.r.l) (y := C35.r.l.r.l.l.r.l.l.r.l.r.l.l.l.r.r) (x9941 < (l3058.length : Int)) (by kernel_rfl) (by kernel_rfl) (fun h9960 => ?_) (fun h9960 => ?_)
                · rw [if_pos h9960] at H
                  refine EW.skip (by kernel_rfl) ?_
                  refine EQ.code ?_
                  obtain ⟨j9968, hj9968, H⟩ := lt_out H
                  refine EW.cut (x := C35.r.l.r.l.l.r.l.l.r.l.r.l.l.r.l) (y := C35.r.l.r.l.l.r.l.l.r.l.r.l.l.r.r) (fun a w => ∃ x9967 : Bool, Sat 37 [(0, .slice A3059 l3058.length C3060), (1, .int .i64 a3061), (5, .int .i64 x9206), (6, .bool (x9967)), (7, .int .i64 x9941)] a ∧ St B w (os) (Ro.sl (Kd.int .i64) A3059 C3060 l3058 :: rs) ∧ j9968 x9967 = some x6518) (by kernel_rfl) ?_ (fun a w hI => ?_)
                  · refine EW.block (x := C35.r.l.r.l.l.r.l.l.r.l.r.l.l.r.l.l) (id := 3) (by kernel_rfl) ?_
                    refine EW.region (id := 8) (ops := C35.r.l.r.l.l.r.l.l.r.l.r.l.l.r.l.l.ops) (by kernel_rfl) ?_
                    refine EL.quick 2 [0, 1, 5, 7, 24] [(0, .slice A3059 l3058.length C3060), (1, .int .i64 a3061), (5, .int .i64 x9206), (7, .int .i64 x9941), (24, .bool (x9940))] (by kernel_rfl) ?_
                    by_cases h9969 : x9940 = true
                    · rw [if_pos h9969] at H
                      refine EL.keep [0, 1, 5, 7, 24] [(0, .slice A3059 l3058.length C3060), (1, .int .i64 a3061), (5, .int .i64 x9206), (7, .int .i64 x9941), (24, .bool (x9940))] (by kernel_rfl) ?_
                      refine EL.as' [(0, .slice A3059 l3058.length C3060), (1, .int .i64 a3061), (5, .int .i64 x9206), (7, .int .i64 x9941), (24, .bool (true))] (by simp only [h9969, Bool.not_true, Bool.not_false]) ?_
                      refine EL.quick 8 [0, 1, 5, 6, 7] [(0, .slice A3059 l3058.length C3060), (1, .int .i64 a3061), (5, .int .i64 x9206), (6, .bool (true)), (7, .int .i64 x9941)] (by kernel_rfl) ?_
                      refine EL.done (by kernel_rfl) ?_
                      refine EQ.pop ?_
                      refine EQ.to ?_
                      refine EQ.keep [0, 1, 5, 6, 7] [(0, .slice A3059 l3058.length C3060), (1, .int .i64 a3061), (5, .int .i64 x9206), (6, .bool (true)), (7, .int .i64 x9941)] (by kernel_rfl) ?_
                      exact fun a ha => ⟨true, ha, (hS.re [] [] rfl (sub_cons 0 rfl (sub_tail (sub_self)))), H⟩
                    · rw [if_neg h9969] at H
                      refine EL.keep [0, 1, 5, 7, 24] [(0, .slice A3059 l3058.length C3060), (1, .int .i64 a3061), (5, .int .i64 x9206), (7, .int .i64 x9941), (24, .bool (x9940))] (by kernel_rfl) ?_
                      refine EL.as' [(0, .slice A3059 l3058.length C3060), (1, .int .i64 a3061), (5, .int .i64 x9206), (7, .int .i64 x9941), (24, .bool (false))] (by simp only [(Bool.eq_false_iff.2 h9969), Bool.not_true, Bool.not_false]) ?_
                      refine EL.quick 2 [0, 1, 5, 7, 24, 25, 26] [(0, .slice A3059 l3058.length C3060), (1, .int .i64 a3061), (5, .int .i64 x9206), (7, .int .i64 x9941), (24, .bool (false)), (25, .slice A3059 l3058.length C3060), (26, .int .i64 x9941)] (by kernel_rfl) ?_
                      obtain ⟨h9970, H⟩ := ite_in H
                      obtain ⟨ad9971, rfl⟩ := St.rd_some hS (Rd.ro 0 rfl) h9970 h9960
                      refine EL.of (EO.Y (YO.idx 24 1 ad9971 l3058.length C3060 .i64 x9941 27 (by kernel_rfl) (by kernel_rfl) (by kernel_rfl) (by kernel_rfl) h9970 h9960) ?_)
                      refine EL.of (EO.Y (YO.loadEl hS (Kd.int .i64) ad9971 C3060 l3058 (Rd.ro 0 rfl) 0 (encI .i64) encI_of x9941 h9970 h9960 3 1 0 1 rfl (.int .i64 (l3058.getD x9941.toNat 0)) 28 (by kernel_rfl) (by kernel_rfl) (by kernel_rfl) (by kernel_rfl)) ?_)
                      refine EL.quick 4 [0, 1, 5, 6, 7, 25, 26, 27, 28, 29, 30] [(0, .slice (some ad9971) l3058.length C3060), (1, .int .i64 a3061), (5, .int .i64 x9206), (6, .bool (decide ((l3058.getD x9941.toNat 0) = x9206))), (7, .int .i64 x9941), (25, .slice (some ad9971) l3058.length C3060), (26, .int .i64 x9941), (27, .pointer (some ((ad9971.add (x9941.toNat * 1)).add 0))), (28, .int .i64 (l3058.getD x9941.toNat 0)), (29, .int .i64 x9206), (30, .bool (decide ((l3058.getD x9941.toNat 0) = x9206)))] (by kernel_rfl) ?_
                      refine EL.done (by kernel_rfl) ?_
                      refine EQ.pop ?_
                      refine EQ.to ?_
                      refine EQ.keep [0, 1, 5, 6, 7] [(0, .slice (some ad9971) l3058.length C3060), (1, .int .i64 a3061), (5, .int .i64 x9206), (6, .bool (decide ((l3058.getD x9941.toNat 0) = x9206))), (7, .int .i64 x9941)] (by kernel_rfl) ?_
                      exact fun a ha => ⟨decide ((l3058.getD x9941.toNat 0) = x9206), ha, (hS.re [] [] rfl (sub_cons 0 rfl (sub_tail (sub_self)))), H⟩
                  · obtain ⟨x9967, ha, hS, H⟩ := hI
                    rw [hj9968] at H
                    (try dsimp only at H)
                    refine EW.at ?_ a ha
                    clear ha a
                    refine EW.region (id := 7) (ops := C35.r.l.r.l.l.r.l.l.r.l.r.l.l.r.r.ops) (by kernel_rfl) ?_
                    refine EL.quick 3 [0, 1, 5, 6, 7] [(0, .slice A3059 l3058.length C3060), (1, .int .i64 a3061), (5, .int .i64 x9206), (6, .bool (x9967)), (7, .int .i64 (IntKind.i64.wrap (x9941 + 1)))] (by kernel_rfl) ?_
                    refine EL.done (by kernel_rfl) ?_
                    refine EQ.to ?_
                    refine EQ.keep [0, 1, 5, 6, 7] [(0, .slice A3059 l3058.length C3060), (1, .int .i64 a3061), (5, .int .i64 x9206), (6, .bool (x9967)), (7, .int .i64 (IntKind.i64.wrap (x9941 + 1)))] (by kernel_rfl) ?_
                    exact fun a ha => ⟨n, Nat.lt_succ_self n, x9967, IntKind.i64.wrap (x9941 + 1), ha, (hS.re [] [] rfl (sub_cons 0 rfl (sub_tail (sub_self)))), H⟩
                · rw [if_neg h9960] at H
                  refine EW.exit (id := 2) (by kernel_rfl) ?_
                  refine EQ.exitCode ?_
                  refine EQ.exitTo ?_
                  refine EQ.exitHere ?_
                  refine EQ.to ?_
                  refine EQ.keep [0, 1, 5, 6] [(0, .slice A3059 l3058.length C3060), (1, .int .i64 a3061), (5, .int .i64 x9206), (6, .bool (x9940))] (by kernel_rfl) ?_
                  exact fun a ha => ⟨x9940, ha, (hS.re [] [] rfl (sub_cons 0 rfl (sub_tail (sub_self)))), H⟩
            · obtain ⟨x9930, ha, hS, H⟩ := hI
              rw [hj9931] at H
              (try dsimp only at H)
              refine EW.at ?_ a ha
              clear ha a
              refine EW.seq (x := C35.r.l.r.l.l.r.l.l.r.r.l) (y := C35.r.l.r.l.l.r.l.l.r.r.r) (by kernel_rfl) ?_
              refine EW.region (id := 9) (ops := C35.r.l.r.l.l.r.l.l.r.r.l.ops) (by kernel_rfl) ?_
              refine EL.quick 2 [0, 1, 5, 33] [(0, .slice A3059 l3058.length C3060), (1, .int .i64 a3061), (5, .int .i64 x9206), (33, .bool (!(x9930)))] (by kernel_rfl) ?_
              refine EL.done (by kernel_rfl) ?_
              refine EQ.code ?_
              refine EW.condQ (b := !(x9930)) (o := (.tmp 33)) (x := C35.r.l.r.l.l.r.l.l.r.r.r.l) (y := C35.r.l.r.l.l.r.l.l.r.r.r.r) (x9930 = true) (false) (by kernel_rfl) (by kernel_rfl) (by constructor <;> intro h <;> simp [h]) (fun h9972 => ?_) (fun h9972 => ?_)
              · rw [if_pos h9972] at H
                refine EW.skip (by kernel_rfl) ?_
                refine EQ.pop ?_
                refine EQ.to ?_
                refine EQ.keep [0, 1, 5] [(0, .slice A3059 l3058.length C3060), (1, .int .i64 a3061), (5, .int .i64 x9206)] (by kernel_rfl) ?_
                exact fun a ha => ⟨ha, (hS.re [] [] rfl (sub_cons 0 rfl (sub_tail (sub_self)))), H⟩
              · rw [if_neg h9972] at H
                refine EW.seq (x := C35.r.l.r.l.l.r.l.l.r.r.r.l.l) (y := C35.r.l.r.l.l.r.l.l.r.r.r.l.r) (by kernel_rfl) ?_
                refine EW.region (id := 10) (ops := C35.r.l.r.l.l.r.l.l.r.r.r.l.l.ops) (by kernel_rfl) ?_
                refine EL.quick 1 [4] [(4, .bool (false))] (by kernel_rfl) ?_
                refine EL.done (by kernel_rfl) ?_
                refine EQ.code ?_
                refine EW.ret (by kernel_rfl) ?_
                refine EQ.ret ?_
                refine EQ.ret ?_
                refine EQ.ret ?_
                refine EQ.ret ?_
                refine EQ.ret ?_
                obtain rfl := Option.some.inj H
                exact EQ.leave (.bool (false)) (by kernel_rfl) ⟨_, rfl, rfl, (hS.re [] [] rfl (sub_self))⟩
          · obtain ⟨ha, hS, H⟩ := hI
            rw [hj9849] at H
            (try dsimp only at H)
            refine EW.at ?_ a ha
            clear ha a
            refine EW.region (id := 3) (ops := C35.r.l.r.l.l.r.r.ops) (by kernel_rfl) ?_
            refine EL.quick 3 [0, 1, 5] [(0, .slice A3059 l3058.length C3060), (1, .int .i64 a3061), (5, .int .i64 (IntKind.i64.wrap (x9206 + 1)))] (by kernel_rfl) ?_
            refine EL.done (by kernel_rfl) ?_
            refine EQ.to ?_
            refine EQ.keep [0, 1, 5] [(0, .slice A3059 l3058.length C3060), (1, .int .i64 a3061), (5, .int .i64 (IntKind.i64.wrap (x9206 + 1)))] (by kernel_rfl) ?_
            exact fun a ha => ⟨n, Nat.lt_succ_self n, IntKind.i64.wrap (x9206 + 1), ha, (hS.re [] [] rfl (sub_cons 0 rfl (sub_tail (sub_self)))), H⟩
        · rw [if_neg h9602] at H
          refine EW.exit (id := 0) (by kernel_rfl) ?_
          refine EQ.exitCode ?_
          refine EQ.exitTo ?_
          refine EQ.exitHere ?_
          refine EQ.to ?_
          refine EQ.keep [0, 1] [(0, .slice A3059 l3058.length C3060), (1, .int .i64 a3061)] (by kernel_rfl) ?_
          exact fun a ha => ⟨ha, (hS.re [] [] rfl (sub_cons 0 rfl (sub_tail (sub_self)))), H⟩
  · obtain ⟨ha, hS, H⟩ := hI
    rw [hj8821] at H
    (try dsimp only at H)
    refine EW.at ?_ a ha
    clear ha a
    refine EW.seq (x := C35.r.r.l) (y := C35.r.r.r) (by kernel_rfl) ?_
    refine EW.region (id := 11) (ops := C35.r.r.l.ops) (by kernel_rfl) ?_
    refine EL.quick 2 [34, 35] [(34, .slice A3059 l3058.length C3060), (35, .int .i64 a3061)] (by kernel_rfl) ?_
    have hS : St B _ (os) (Ro.sl (Kd.int .i64) A3059 C3060 l3058 :: Ro.sl (Kd.int .i64) A3059 C3060 l3058 :: rs) := hS.re [] [] rfl (sub_cons 0 rfl sub_self)
    obtain ⟨t9973, hc9974, H⟩ := b1_out H
    refine EL.of (EO.callD 33 [.slice A3059 l3058.length C3060, .int .i64 a3061] _ 36 (by kernel_rfl) (by kernel_rfl) (by kernel_rfl) (confidantref15_TableRight.calls hc9974 hS) ?_)
    rintro v w ⟨rfl, hS⟩
    refine EL.quick 1 [4] [(4, .bool (t9973))] (by kernel_rfl) ?_
    refine EL.done (by kernel_rfl) ?_
    refine EQ.code ?_
    refine EW.ret (by kernel_rfl) ?_
    obtain rfl := Option.some.inj H
    exact EQ.leave (.bool (t9973)) (by kernel_rfl) ⟨_, rfl, rfl, (hS.re [] [] rfl (sub_tail (sub_self)))⟩

/-! ### confidant/confidantref15.At: function 37 -/
def confidantref15_At.f (K : Nat) (l10583 : List Int) (a10586 : Int) : Option Int := if (l10583.length : Int) = 0 then (some (-1)) else (if 0 ≤ (Int.tmod (mx a10586 0) (l10583.length : Int)) then (if (Int.tmod (mx a10586 0) (l10583.length : Int)) < (l10583.length : Int) then (some (l10583.getD (Int.tmod (mx a10586 0) (l10583.length : Int)).toNat 0)) else none) else none)
set_option maxRecDepth 100000 in
theorem confidantref15_At.calls {K : Nat} {l10583 : List Int} {a10586 : Int} {A10584 : Option Addr} {C10585 : Nat} {x10593 : Int} {B w : World} {os : List Ass} {rs : List Ro} (H : confidantref15_At.f K l10583 a10586 = some x10593) (hS : St B w (os) (Ro.sl (Kd.int .i64) A10584 C10585 l10583 :: rs)) :
    Calls Try.prog 37 [.slice A10584 l10583.length C10585, .int .i64 a10586].toArray w (fun en w' => ∃ v, en = .returned v ∧ v = .int .i64 x10593 ∧ St B w' (os) (Ro.sl (Kd.int .i64) A10584 C10585 l10583 :: rs)) := by
  unfold confidantref15_At.f at H
  refine calls_of_EW (args := [.slice A10584 l10583.length C10585, .int .i64 a10586]) (c := C37) 16 Try.func37 (by kernel_rfl) (by kernel_rfl) (by kernel_rfl) ?_
  refine EW.seq (x := C37.l) (y := C37.r) (by kernel_rfl) ?_
  refine EW.region (id := 0) (ops := C37.l.ops) (by kernel_rfl) ?_
  refine EL.quick 1 [0, 1] [(0, .slice A10584 l10583.length C10585), (1, .int .i64 a10586)] (by kernel_rfl) ?_
  refine EL.done (by kernel_rfl) ?_
  refine EQ.code ?_
  refine EW.seq (x := C37.r.l) (y := C37.r.r) (by kernel_rfl) ?_
  refine EW.seq (x := C37.r.l.l) (y := C37.r.l.r) (by kernel_rfl) ?_
  refine EW.region (id := 1) (ops := C37.r.l.l.ops) (by kernel_rfl) ?_
  refine EL.quick 3 [0, 1, 7] [(0, .slice A10584 l10583.length C10585), (1, .int .i64 a10586), (7, .bool (decide ((l10583.length : Int) = 0)))] (by kernel_rfl) ?_
  refine EL.done (by kernel_rfl) ?_
  refine EQ.code ?_
  refine EW.condP (o := (.tmp 7)) (x := C37.r.l.r.l) (y := C37.r.l.r.r) ((l10583.length : Int) = 0) (by kernel_rfl) (by kernel_rfl) (fun h10595 => ?_) (fun h10595 => ?_)
  · rw [if_pos h10595] at H
    refine EW.seq (x := C37.r.l.r.l.l) (y := C37.r.l.r.l.r) (by kernel_rfl) ?_
    refine EW.region (id := 2) (ops := C37.r.l.r.l.l.ops) (by kernel_rfl) ?_
    refine EL.quick 1 [4] [(4, .int .i64 (-1))] (by kernel_rfl) ?_
    refine EL.done (by kernel_rfl) ?_
    refine EQ.code ?_
    refine EW.ret (by kernel_rfl) ?_
    refine EQ.ret ?_
    obtain rfl := Option.some.inj H
    exact EQ.leave (.int .i64 (-1)) (by kernel_rfl) ⟨_, rfl, rfl, (hS.re [] [] rfl (sub_self))⟩
  · rw [if_neg h10595] at H
    refine EW.skip (by kernel_rfl) ?_
    refine EQ.code ?_
    refine EW.seq (x := C37.r.r.l) (y := C37.r.r.r) (by kernel_rfl) ?_
    refine EW.region (id := 3) (ops := C37.r.r.l.ops) (by kernel_rfl) ?_
    refine EL.quick 5 [8, 10, 12] [(8, .slice A10584 l10583.length C10585), (10, .int .i64 (mx a10586 0)), (12, .int .i64 (l10583.length : Int))] (by kernel_rfl) ?_
    refine EL.of (EO.Y (YO.div .rem .i64 (mx a10586 0) (l10583.length : Int) (Int.tmod (mx a10586 0) (l10583.length : Int)) 13 (by kernel_rfl) (by kernel_rfl) (by kernel_rfl) h10595 (by first | exact .inl ⟨rfl, rfl⟩ | exact .inr ⟨rfl, rfl⟩)) ?_)
    obtain ⟨h10597, H⟩ := ite_in H
    obtain ⟨h10598, H⟩ := ite_in H
    obtain ⟨ad10599, rfl⟩ := St.rd_some hS (Rd.ro 0 rfl) h10597 h10598
    refine EL.of (EO.Y (YO.idx 24 1 ad10599 l10583.length C10585 .i64 (Int.tmod (mx a10586 0) (l10583.length : Int)) 14 (by kernel_rfl) (by kernel_rfl) (by kernel_rfl) (by kernel_rfl) h10597 h10598) ?_)
    refine EL.of (EO.Y (YO.loadEl hS (Kd.int .i64) ad10599 C10585 l10583 (Rd.ro 0 rfl) 0 (encI .i64) encI_of (Int.tmod (mx a10586 0) (l10583.length : Int)) h10597 h10598 3 1 0 1 rfl (.int .i64 (l10583.getD (Int.tmod (mx a10586 0) (l10583.length : Int)).toNat 0)) 15 (by kernel_rfl) (by kernel_rfl) (by kernel_rfl) (by kernel_rfl)) ?_)
    refine EL.quick 1 [4] [(4, .int .i64 (l10583.getD (Int.tmod (mx a10586 0) (l10583.length : Int)).toNat 0))] (by kernel_rfl) ?_
    refine EL.done (by kernel_rfl) ?_
    refine EQ.code ?_
    refine EW.ret (by kernel_rfl) ?_
    obtain rfl := Option.some.inj H
    exact EQ.leave (.int .i64 (l10583.getD (Int.tmod (mx a10586 0) (l10583.length : Int)).toNat 0)) (by kernel_rfl) ⟨_, rfl, rfl, (hS.re [] [] rfl (sub_self))⟩

/-! ### confidant/confidantref15.NextRound: function 39 -/
def confidantref15_NextRound.l0 (K : Nat) (l10605 : List Int) (a10609 : Int) (a10608 : Int) : Nat → Int → Option Int
  | 0, _ => none
  | n + 1, x10666 => if x10666 < (l10605.length : Int) then (b1 (confidantref15_At.f K l10605 (IntKind.i64.wrap ((mx a10609 0) + x10666))) fun (t10690 : Int) => (if t10690 = a10608 then (some (IntKind.i64.wrap ((mx a10609 0) + x10666))) else (confidantref15_NextRound.l0 K l10605 a10609 a10608 n (IntKind.i64.wrap (x10666 + 1))))) else (some (-1))
def confidantref15_NextRound.f (K : Nat) (l10605 : List Int) (a10608 : Int) (a10609 : Int) : Option Int := confidantref15_NextRound.l0 K l10605 a10609 a10608 K 0
set_option maxRecDepth 100000 in
theorem confidantref15_NextRound.calls {K : Nat} {l10605 : List Int} {a10608 : Int} {a10609 : Int} {A10606 : Option Addr} {C10607 : Nat} {x10651 : Int} {B w : World} {os : List Ass} {rs : List Ro} (H : confidantref15_NextRound.f K l10605 a10608 a10609 = some x10651) (hS : St B w (os) (Ro.sl (Kd.int .i64) A10606 C10607 l10605 :: rs)) :
    Calls Try.prog 39 [.slice A10606 l10605.length C10607, .int .i64 a10608, .int .i64 a10609].toArray w (fun en w' => ∃ v, en = .returned v ∧ v = .int .i64 x10651 ∧ St B w' (os) (Ro.sl (Kd.int .i64) A10606 C10607 l10605 :: rs)) := by
  unfold confidantref15_NextRound.f at H
  refine calls_of_EW (args := [.slice A10606 l10605.length C10607, .int .i64 a10608, .int .i64 a10609]) (c := C39) 26 Try.func39 (by kernel_rfl) (by kernel_rfl) (by kernel_rfl) ?_
  refine EW.seq (x := C39.l) (y := C39.r) (by kernel_rfl) ?_
  refine EW.region (id := 0) (ops := C39.l.ops) (by kernel_rfl) ?_
  refine EL.quick 1 [0, 1, 2] [(0, .slice A10606 l10605.length C10607), (1, .int .i64 a10608), (2, .int .i64 a10609)] (by kernel_rfl) ?_
  refine EL.done (by kernel_rfl) ?_
  refine EQ.code ?_
  refine EW.seq (x := C39.r.l) (y := C39.r.r) (by kernel_rfl) ?_
  refine EW.seq (x := C39.r.l.l) (y := C39.r.l.r) (by kernel_rfl) ?_
  refine EW.region (id := 1) (ops := C39.r.l.l.ops) (by kernel_rfl) ?_
  refine EL.quick 1 [0, 1, 2, 7] [(0, .slice A10606 l10605.length C10607), (1, .int .i64 a10608), (2, .int .i64 a10609), (7, .int .i64 0)] (by kernel_rfl) ?_
  refine EL.done (by kernel_rfl) ?_
  refine EQ.code ?_
  refine EW.block (x := C39.r.l.r.l) (id := 0) (by kernel_rfl) ?_
  refine EW.loop (x := C39.r.l.r.l.l) (fun n a w => ∃ x10666 : Int, Sat 26 [(0, .slice A10606 l10605.length C10607), (1, .int .i64 a10608), (2, .int .i64 a10609), (7, .int .i64 x10666)] a ∧ St B w (os) (Ro.sl (Kd.int .i64) A10606 C10607 l10605 :: rs) ∧ confidantref15_NextRound.l0 K l10605 a10609 a10608 n x10666 = some x10651) K (by kernel_rfl) ?_ (fun n a w hI => ?_)
  · refine EQ.keep [0, 1, 2, 7] [(0, .slice A10606 l10605.length C10607), (1, .int .i64 a10608), (2, .int .i64 a10609), (7, .int .i64 0)] (by kernel_rfl) ?_
    exact fun a ha => ⟨0, ha, (hS.re [] [] rfl (sub_cons 0 rfl (sub_tail (sub_self)))), H⟩
  · obtain ⟨x10666, ha, hS, H⟩ := hI
    obtain _ | n := n
    · simp [confidantref15_NextRound.l0] at H
    rw [confidantref15_NextRound.l0.eq_2] at H
    refine EW.at ?_ a ha
    clear ha a
    refine EW.seq (x := C39.r.l.r.l.l.l) (y := C39.r.l.r.l.l.r) (by kernel_rfl) ?_
    refine EW.seq (x := C39.r.l.r.l.l.l.l) (y := C39.r.l.r.l.l.l.r) (by kernel_rfl) ?_
    refine EW.region (id := 2) (ops := C39.r.l.r.l.l.l.l.ops) (by kernel_rfl) ?_
    refine EL.quick 4 [0, 1, 2, 7, 11] [(0, .slice A10606 l10605.length C10607), (1, .int .i64 a10608), (2, .int .i64 a10609), (7, .int .i64 x10666), (11, .bool (decide (x10666 < (l10605.length : Int))))] (by kernel_rfl) ?_
    refine EL.done (by kernel_rfl) ?_
    refine EQ.code ?_
    refine EW.condP (o := (.tmp 11)) (x := C39.r.l.r.l.l.l.r.l) (y := C39.r.l.r.l.l.l.r.r) (x10666 < (l10605.length : Int)) (by kernel_rfl) (by kernel_rfl) (fun h10682 => ?_) (fun h10682 => ?_)
    · rw [if_pos h10682] at H
      refine EW.skip (by kernel_rfl) ?_
      refine EQ.code ?_
      refine EW.seq (x := C39.r.l.r.l.l.r.l) (y := C39.r.l.r.l.l.r.r) (by kernel_rfl) ?_
      refine EW.block (x := C39.r.l.r.l.l.r.l.l) (id := 1) (by kernel_rfl) ?_
      refine EW.seq (x := C39.r.l.r.l.l.r.l.l.l) (y := C39.r.l.r.l.l.r.l.l.r) (by kernel_rfl) ?_
      refine EW.region (id := 4) (ops := C39.r.l.r.l.l.r.l.l.l.ops) (by kernel_rfl) ?_
      refine EL.quick 5 [0, 1, 2, 7, 14, 18] [(0, .slice A10606 l10605.length C10607), (1, .int .i64 a10608), (2, .int .i64 a10609), (7, .int .i64 x10666), (14, .slice A10606 l10605.length C10607), (18, .int .i64 (IntKind.i64.wrap ((mx a10609 0) + x10666)))] (by kernel_rfl) ?_
      have hS : St B _ (os) (Ro.sl (Kd.int .i64) A10606 C10607 l10605 :: Ro.sl (Kd.int .i64) A10606 C10607 l10605 :: rs) := hS.re [] [] rfl (sub_cons 0 rfl sub_self)
      obtain ⟨t10690, hc10691, H⟩ := b1_out H
      refine EL.of (EO.callD 37 [.slice A10606 l10605.length C10607, .int .i64 (IntKind.i64.wrap ((mx a10609 0) + x10666))] _ 19 (by kernel_rfl) (by kernel_rfl) (by kernel_rfl) (confidantref15_At.calls hc10691 hS) ?_)
      rintro v w ⟨rfl, hS⟩
      refine EL.quick 2 [0, 1, 2, 7, 21] [(0, .slice A10606 l10605.length C10607), (1, .int .i64 a10608), (2, .int .i64 a10609), (7, .int .i64 x10666), (21, .bool (decide (t10690 = a10608)))] (by kernel_rfl) ?_
      refine EL.done (by kernel_rfl) ?_
      refine EQ.code ?_
      refine EW.condP (o := (.tmp 21)) (x := C39.r.l.r.l.l.r.l.l.r.l) (y := C39.r.l.r.l.l.r.l.l.r.r) (t10690 = a10608) (by kernel_rfl) (by kernel_rfl) (fun h10692 => ?_) (fun h10692 => ?_)
      · rw [if_pos h10692] at H
        refine EW.seq (x := C39.r.l.r.l.l.r.l.l.r.l.l) (y := C39.r.l.r.l.l.r.l.l.r.l.r) (by kernel_rfl) ?_
        refine EW.region (id := 5) (ops := C39.r.l.r.l.l.r.l.l.r.l.l.ops) (by kernel_rfl) ?_
        refine EL.quick 5 [6] [(6, .int .i64 (IntKind.i64.wrap ((mx a10609 0) + x10666)))] (by kernel_rfl) ?_
        refine EL.done (by kernel_rfl) ?_
        refine EQ.code ?_
        refine EW.ret (by kernel_rfl) ?_
        refine EQ.ret ?_
        refine EQ.ret ?_
        refine EQ.ret ?_
        refine EQ.ret ?_
        refine EQ.ret ?_
        obtain rfl := Option.some.inj H
        exact EQ.leave (.int .i64 (IntKind.i64.wrap ((mx a10609 0) + x10666))) (by kernel_rfl) ⟨_, rfl, rfl, (hS.re [] [] rfl (sub_tail (sub_self)))⟩
      · rw [if_neg h10692] at H
        refine EW.skip (by kernel_rfl) ?_
        refine EQ.pop ?_
        refine EQ.code ?_
        refine EW.region (id := 3) (ops := C39.r.l.r.l.l.r.r.ops) (by kernel_rfl) ?_
        refine EL.quick 3 [0, 1, 2, 7] [(0, .slice A10606 l10605.length C10607), (1, .int .i64 a10608), (2, .int .i64 a10609), (7, .int .i64 (IntKind.i64.wrap (x10666 + 1)))] (by kernel_rfl) ?_
        refine EL.done (by kernel_rfl) ?_
        refine EQ.to ?_
        refine EQ.keep [0, 1, 2, 7] [(0, .slice A10606 l10605.length C10607), (1, .int .i64 a10608), (2, .int .i64 a10609), (7, .int .i64 (IntKind.i64.wrap (x10666 + 1)))] (by kernel_rfl) ?_
        exact fun a ha => ⟨n, Nat.lt_succ_self n, IntKind.i64.wrap (x10666 + 1), ha, (hS.re [] [] rfl (sub_cons 0 rfl (sub_tail (sub_tail (sub_self))))), H⟩
    · rw [if_neg h10682] at H
      refine EW.exit (id := 0) (by kernel_rfl) ?_
      refine EQ.exitCode ?_
      refine EQ.exitTo ?_
      refine EQ.exitHere ?_
      refine EQ.code ?_
      refine EW.seq (x := C39.r.r.l) (y := C39.r.r.r) (by kernel_rfl) ?_
      refine EW.region (id := 6) (ops := C39.r.r.l.ops) (by kernel_rfl) ?_
      refine EL.quick 1 [6] [(6, .int .i64 (-1))] (by kernel_rfl) ?_
      refine EL.done (by kernel_rfl) ?_
      refine EQ.code ?_
      refine EW.ret (by kernel_rfl) ?_
      obtain rfl := Option.some.inj H
      exact EQ.leave (.int .i64 (-1)) (by kernel_rfl) ⟨_, rfl, rfl, (hS.re [] [] rfl (sub_self))⟩

/-! ### confidant/confidantref15.Slots: function 41 -/
def confidantref15_Slots.l1 (K : Nat) (a10703 : Int) (l10698 : List Int) (a10701 : Int) : Nat → Int → Int → Option Int
  | 0, _, _ => none
  | n + 1, x11205, x11206 => if x11206 < (mx a10703 0) then (lt (fun (x11242 : Int) => (confidantref15_Slots.l1 K a10703 l10698 a10701 n x11242 (IntKind.i64.wrap (x11206 + 1)))) fun j11243 => (b1 (confidantref15_At.f K l10698 x11206) fun (t11246 : Int) => (if t11246 = a10701 then (j11243 (IntKind.i64.wrap (x11205 + 1))) else (j11243 x11205)))) else (some x11205)
def confidantref15_Slots.l0 (K : Nat) (l10698 : List Int) (a10701 : Int) (j11112 : Int → Option Int) : Nat → Int → Int → Option Int
  | 0, _, _ => none
  | n + 1, x11130, x11131 => if x11131 < (l10698.length : Int) then (lt (fun (x11167 : Int) => (confidantref15_Slots.l0 K l10698 a10701 j11112 n x11167 (IntKind.i64.wrap (x11131 + 1)))) fun j11168 => (if 0 ≤ x11131 then (if (l10698.getD x11131.toNat 0) = a10701 then (j11168 (IntKind.i64.wrap (x11130 + 1))) else (j11168 x11130)) else none)) else (j11112 x11130)
def confidantref15_Slots.f (K : Nat) (l10698 : List Int) (a10701 : Int) (a10702 : Int) (a10703 : Int) : Option Int := lt (fun (x10985 : Bool) => (if x10985 = true then (some 0) else (lt (fun (x11111 : Int) => (if (l10698.length : Int) = 0 then none else (lt (IntKind.i64.wrap ((IntKind.i64.wrap (Int.tdiv (IntKind.i64.wrap ((mx a10703 0) - (mx a10702 0))) (l10698.length : Int))) * x11111)) fun y11177 => (lt (IntKind.i64.wrap ((mx a10703 0) - (Int.tmod (IntKind.i64.wrap ((mx a10703 0) - (mx a10702 0))) (l10698.length : Int)))) fun y11181 => (confidantref15_Slots.l1 K a10703 l10698 a10701 K y11177 y11181))))) fun j11112 => (confidantref15_Slots.l0 K l10698 a10701 j11112 K 0 0)))) fun j10986 => (if (l10698.length : Int) = 0 then (j10986 true) else (j10986 (decide ((mx a10702 0) ≥ (mx a10703 0)))))
set_option maxRecDepth 100000 in
theorem confidantref15_Slots.calls {K : Nat} {l10698 : List Int} {a10701 : Int} {a10702 : Int} {a10703 : Int} {A10699 : Option Addr} {C10700 : Nat} {x10976 : Int} {B w : World} {os : List Ass} {rs : List Ro} (H : confidantref15_Slots.f K l10698 a10701 a10702 a10703 = some x10976) (hS : St B w (os) (Ro.sl (Kd.int .i64) A10699 C10700 l10698 :: rs)) :
    Calls Try.prog 41 [.slice A10699 l10698.length C10700, .int .i64 a10701, .int .i64 a10702, .int .i64 a10703].toArray w (fun en w' => ∃ v, en = .returned v ∧ v = .int .i64 x10976 ∧ St B w' (os) (Ro.sl (Kd.int .i64) A10699 C10700 l10698 :: rs)) := by
  unfold confidantref15_Slots.f at H
  refine calls_of_EW (args := [.slice A10699 l10698.length C10700, .int .i64 a10701, .int .i64 a10702, .int .i64 a10703]) (c := C41) 68 Try.func41 (by kernel_rfl) (by kernel_rfl) (by kernel_rfl) ?_
  refine EW.seq (x := C41.l) (y := C41.r) (by kernel_rfl) ?_
  refine EW.region (id := 0) (ops := C41.l.ops) (by kernel_rfl) ?_
  refine EL.quick 1 [0, 1, 2, 3] [(0, .slice A10699 l10698.length C10700), (1, .int .i64 a10701), (2, .int .i64 a10702), (3, .int .i64 a10703)] (by kernel_rfl) ?_
  refine EL.done (by kernel_rfl) ?_
  refine EQ.code ?_
  refine EW.seq (x := C41.r.l) (y := C41.r.r) (by kernel_rfl) ?_
  refine EW.region (id := 1) (ops := C41.r.l.ops) (by kernel_rfl) ?_
  refine EL.quick 6 [0, 1, 2, 3] [(0, .slice A10699 l10698.length C10700), (1, .int .i64 a10701), (2, .int .i64 (mx a10702 0)), (3, .int .i64 (mx a10703 0))] (by kernel_rfl) ?_
  refine EL.done (by kernel_rfl) ?_
  refine EQ.code ?_
  refine EW.seq (x := C41.r.r.l) (y := C41.r.r.r) (by kernel_rfl) ?_
  obtain ⟨j10986, hj10986, H⟩ := lt_out H
  refine EW.cut (x := C41.r.r.l.l) (y := C41.r.r.l.r) (fun a w => ∃ x10985 : Bool, Sat 68 [(0, .slice A10699 l10698.length C10700), (1, .int .i64 a10701), (2, .int .i64 (mx a10702 0)), (3, .int .i64 (mx a10703 0)), (24, .bool (x10985))] a ∧ St B w (os) (Ro.sl (Kd.int .i64) A10699 C10700 l10698 :: rs) ∧ j10986 x10985 = some x10976) (by kernel_rfl) ?_ (fun a w hI => ?_)
  · refine EW.region (id := 2) (ops := C41.r.r.l.l.ops) (by kernel_rfl) ?_
    refine EL.quick 4 [0, 1, 2, 3, 20] [(0, .slice A10699 l10698.length C10700), (1, .int .i64 a10701), (2, .int .i64 (mx a10702 0)), (3, .int .i64 (mx a10703 0)), (20, .bool (decide ((l10698.length : Int) = 0)))] (by kernel_rfl) ?_
    by_cases h10987 : (l10698.length : Int) = 0
    · rw [if_pos h10987] at H
      refine EL.keep [0, 1, 2, 3, 20] [(0, .slice A10699 l10698.length C10700), (1, .int .i64 a10701), (2, .int .i64 (mx a10702 0)), (3, .int .i64 (mx a10703 0)), (20, .bool (decide ((l10698.length : Int) = 0)))] (by kernel_rfl) ?_
      refine EL.as' [(0, .slice A10699 l10698.length C10700), (1, .int .i64 a10701), (2, .int .i64 (mx a10702 0)), (3, .int .i64 (mx a10703 0)), (20, .bool (true))] (by simp only [dec_t h10987, Bool.not_true, Bool.not_false]) ?_
      refine EL.quick 4 [0, 1, 2, 3, 24] [(0, .slice A10699 l10698.length C10700), (1, .int .i64 a10701), (2, .int .i64 (mx a10702 0)), (3, .int .i64 (mx a10703 0)), (24, .bool (true))] (by kernel_rfl) ?_
      refine EL.done (by kernel_rfl) ?_
      refine EQ.to ?_
      refine EQ.keep [0, 1, 2, 3, 24] [(0, .slice A10699 l10698.length C10700), (1, .int .i64 a10701), (2, .int .i64 (mx a10702 0)), (3, .int .i64 (mx a10703 0)), (24, .bool (true))] (by kernel_rfl) ?_
      exact fun a ha => ⟨true, ha, (hS.re [] [] rfl (sub_cons 0 rfl (sub_tail (sub_self)))), H⟩
    · rw [if_neg h10987] at H
      refine EL.keep [0, 1, 2, 3, 20] [(0, .slice A10699 l10698.length C10700), (1, .int .i64 a10701), (2, .int .i64 (mx a10702 0)), (3, .int .i64 (mx a10703 0)), (20, .bool (decide ((l10698.length : Int) = 0)))] (by kernel_rfl) ?_
      refine EL.as' [(0, .slice A10699 l10698.length C10700), (1, .int .i64 a10701), (2, .int .i64 (mx a10702 0)), (3, .int .i64 (mx a10703 0)), (20, .bool (false))] (by simp only [dec_f h10987, Bool.not_true, Bool.not_false]) ?_
      refine EL.quick 4 [0, 1, 2, 3, 24] [(0, .slice A10699 l10698.length C10700), (1, .int .i64 a10701), (2, .int .i64 (mx a10702 0)), (3, .int .i64 (mx a10703 0)), (24, .bool (decide ((mx a10702 0) ≥ (mx a10703 0))))] (by kernel_rfl) ?_
      refine EL.done (by kernel_rfl) ?_
      refine EQ.to ?_
      refine EQ.keep [0, 1, 2, 3, 24] [(0, .slice A10699 l10698.length C10700), (1, .int .i64 a10701), (2, .int .i64 (mx a10702 0)), (3, .int .i64 (mx a10703 0)), (24, .bool (decide ((mx a10702 0) ≥ (mx a10703 0))))] (by kernel_rfl) ?_
      exact fun a ha => ⟨decide ((mx a10702 0) ≥ (mx a10703 0)), ha, (hS.re [] [] rfl (sub_cons 0 rfl (sub_tail (sub_self)))), H⟩
  · obtain ⟨x10985, ha, hS, H⟩ := hI
    rw [hj10986] at H
    (try dsimp only at H)
    refine EW.at ?_ a ha
    clear ha a
    refine EW.condP' (o := (.tmp 24)) (x := C41.r.r.l.r.l) (y := C41.r.r.l.r.r) (x10985) (by kernel_rfl) (by kernel_rfl) (fun h10988 => ?_) (fun h10988 => ?_)
    · rw [if_pos h10988] at H
      refine EW.seq (x := C41.r.r.l.r.l.l) (y := C41.r.r.l.r.l.r) (by kernel_rfl) ?_
      refine EW.region (id := 3) (ops := C41.r.r.l.r.l.l.ops) (by kernel_rfl) ?_
      refine EL.quick 1 [8] [(8, .int .i64 0)] (by kernel_rfl) ?_
      refine EL.done (by kernel_rfl) ?_
      refine EQ.code ?_
      refine EW.ret (by kernel_rfl) ?_
      refine EQ.ret ?_
      obtain rfl := Option.some.inj H
      exact EQ.leave (.int .i64 0) (by kernel_rfl) ⟨_, rfl, rfl, (hS.re [] [] rfl (sub_self))⟩
    · rw [if_neg h10988] at H
      refine EW.skip (by kernel_rfl) ?_
      refine EQ.code ?_
      refine EW.seq (x := C41.r.r.r.l) (y := C41.r.r.r.r) (by kernel_rfl) ?_
      refine EW.region (id := 4) (ops := C41.r.r.r.l.ops) (by kernel_rfl) ?_
      refine EL.quick 2 [0, 1, 2, 3, 10] [(0, .slice A10699 l10698.length C10700), (1, .int .i64 a10701), (2, .int .i64 (mx a10702 0)), (3, .int .i64 (mx a10703 0)), (10, .int .i64 0)] (by kernel_rfl) ?_
      refine EL.done (by kernel_rfl) ?_
      refine EQ.code ?_
      obtain ⟨j11112, hj11112, H⟩ := lt_out H
      refine EW.cut (x := C41.r.r.r.r.l) (y := C41.r.r.r.r.r) (fun a w => ∃ x11111 : Int, Sat 68 [(0, .slice A10699 l10698.length C10700), (1, .int .i64 a10701), (2, .int .i64 (mx a10702 0)), (3, .int .i64 (mx a10703 0)), (10, .int .i64 x11111)] a ∧ St B w (os) (Ro.sl (Kd.int .i64) A10699 C10700 l10698 :: rs) ∧ j11112 x11111 = some x10976) (by kernel_rfl) ?_ (fun a w hI => ?_)
      · refine EW.seq (x := C41.r.r.r.r.l.l) (y := C41.r.r.r.r.l.r) (by kernel_rfl) ?_
        refine EW.region (id := 5) (ops := C41.r.r.r.r.l.l.ops) (by kernel_rfl) ?_
        refine EL.quick 1 [0, 1, 2, 3, 10, 11] [(0, .slice A10699 l10698.length C10700), (1, .int .i64 a10701), (2, .int .i64 (mx a10702 0)), (3, .int .i64 (mx a10703 0)), (10, .int .i64 0), (11, .int .i64 0)] (by kernel_rfl) ?_
        refine EL.done (by kernel_rfl) ?_
        refine EQ.code ?_
        refine EW.block (x := C41.r.r.r.r.l.r.l) (id := 0) (by kernel_rfl) ?_
        refine EW.loop (x := C41.r.r.r.r.l.r.l.l) (fun n a w => ∃ x11130 : Int, ∃ x11131 : Int, Sat 68 [(0, .slice A10699 l10698.length C10700), (1, .int .i64 a10701), (2, .int .i64 (mx a10702 0)), (3, .int .i64 (mx a10703 0)), (10, .int .i64 x11130), (11, .int .i64 x11131)] a ∧ St B w (os) (Ro.sl (Kd.int .i64) A10699 C10700 l10698 :: rs) ∧ confidantref15_Slots.l0 K l10698 a10701 j11112 n x11130 x11131 = some x10976) K (by kernel_rfl) ?_ (fun n a w hI => ?_)
        · refine EQ.keep [0, 1, 2, 3, 10, 11] [(0, .slice A10699 l10698.length C10700), (1, .int .i64 a10701), (2, .int .i64 (mx a10702 0)), (3, .int .i64 (mx a10703 0)), (10, .int .i64 0), (11, .int .i64 0)] (by kernel_rfl) ?_
          exact fun a ha => ⟨0, 0, ha, (hS.re [] [] rfl (sub_cons 0 rfl (sub_tail (sub_self)))), H⟩
        · obtain ⟨x11130, x11131, ha, hS, H⟩ := hI
          obtain _ | n := n
          · simp [confidantref15_Slots.l0] at H
          rw [confidantref15_Slots.l0.eq_2] at H
          refine EW.at ?_ a ha
          clear ha a
          refine EW.seq (x := C41.r.r.r.r.l.r.l.l.l) (y := C41.r.r.r.r.l.r.l.l.r) (by kernel_rfl) ?_
          refine EW.seq (x := C41.r.r.r.r.l.r.l.l.l.l) (y := C41.r.r.r.r.l.r.l.l.l.r) (by kernel_rfl) ?_
          refine EW.region (id := 6) (ops := C41.r.r.r.r.l.r.l.l.l.l.ops) (by kernel_rfl) ?_
          refine EL.quick 4 [0, 1, 2, 3, 10, 11, 28] [(0, .slice A10699 l10698.length C10700), (1, .int .i64 a10701), (2, .int .i64 (mx a10702 0)), (3, .int .i64 (mx a10703 0)), (10, .int .i64 x11130), (11, .int .i64 x11131), (28, .bool (decide (x11131 < (l10698.length : Int))))] (by kernel_rfl) ?_
          refine EL.done (by kernel_rfl) ?_
          refine EQ.code ?_
          refine EW.condP (o := (.tmp 28)) (x := C41.r.r.r.r.l.r.l.l.l.r.l) (y := C41.r.r.r.r.l.r.l.l.l.r.r) (x11131 < (l10698.length : Int)) (by kernel_rfl) (by kernel_rfl) (fun h11156 => ?_) (fun h11156 => ?_)
          · rw [if_pos h11156] at H
            refine EW.skip (by kernel_rfl) ?_
            refine EQ.code ?_
            obtain ⟨j11168, hj11168, H⟩ := lt_out H
            refine EW.cut (x := C41.r.r.r.r.l.r.l.l.r.l) (y := C41.r.r.r.r.l.r.l.l.r.r) (fun a w => ∃ x11167 : Int, Sat 68 [(0, .slice A10699 l10698.length C10700), (1, .int .i64 a10701), (2, .int .i64 (mx a10702 0)), (3, .int .i64 (mx a10703 0)), (10, .int .i64 x11167), (11, .int .i64 x11131)] a ∧ St B w (os) (Ro.sl (Kd.int .i64) A10699 C10700 l10698 :: rs) ∧ j11168 x11167 = some x10976) (by kernel_rfl) ?_ (fun a w hI => ?_)
            · refine EW.block (x := C41.r.r.r.r.l.r.l.l.r.l.l) (id := 1) (by kernel_rfl) ?_
              refine EW.seq (x := C41.r.r.r.r.l.r.l.l.r.l.l.l) (y := C41.r.r.r.r.l.r.l.l.r.l.l.r) (by kernel_rfl) ?_
              refine EW.region (id := 8) (ops := C41.r.r.r.r.l.r.l.l.r.l.l.l.ops) (by kernel_rfl) ?_
              refine EL.quick 2 [0, 1, 2, 3, 10, 11, 31, 32] [(0, .slice A10699 l10698.length C10700), (1, .int .i64 a10701), (2, .int .i64 (mx a10702 0)), (3, .int .i64 (mx a10703 0)), (10, .int .i64 x11130), (11, .int .i64 x11131), (31, .slice A10699 l10698.length C10700), (32, .int .i64 x11131)] (by kernel_rfl) ?_
              obtain ⟨h11171, H⟩ := ite_in H
              obtain ⟨ad11172, rfl⟩ := St.rd_some hS (Rd.ro 0 rfl) h11171 h11156
              refine EL.of (EO.Y (YO.idx 24 1 ad11172 l10698.length C10700 .i64 x11131 33 (by kernel_rfl) (by kernel_rfl) (by kernel_rfl) (by kernel_rfl) h11171 h11156) ?_)
              refine EL.of (EO.Y (YO.loadEl hS (Kd.int .i64) ad11172 C10700 l10698 (Rd.ro 0 rfl) 0 (encI .i64) encI_of x11131 h11171 h11156 3 1 0 1 rfl (.int .i64 (l10698.getD x11131.toNat 0)) 34 (by kernel_rfl) (by kernel_rfl) (by kernel_rfl) (by kernel_rfl)) ?_)
              refine EL.quick 2 [0, 1, 2, 3, 10, 11, 36] [(0, .slice (some ad11172) l10698.length C10700), (1, .int .i64 a10701), (2, .int .i64 (mx a10702 0)), (3, .int .i64 (mx a10703 0)), (10, .int .i64 x11130), (11, .int .i64 x11131), (36, .bool (decide ((l10698.getD x11131.toNat 0) = a10701)))] (by kernel_rfl) ?_
              refine EL.done (by kernel_rfl) ?_
              refine EQ.code ?_
              refine EW.condP (o := (.tmp 36)) (x := C41.r.r.r.r.l.r.l.l.r.l.l.r.l) (y := C41.r.r.r.r.l.r.l.l.r.l.l.r.r) ((l10698.getD x11131.toNat 0) = a10701) (by kernel_rfl) (by kernel_rfl) (fun h11173 => ?_) (fun h11173 => ?_)
              · rw [if_pos h11173] at H
                refine EW.region (id := 9) (ops := C41.r.r.r.r.l.r.l.l.r.l.l.r.l.ops) (by kernel_rfl) ?_
                refine EL.quick 3 [0, 1, 2, 3, 10, 11] [(0, .slice (some ad11172) l10698.length C10700), (1, .int .i64 a10701), (2, .int .i64 (mx a10702 0)), (3, .int .i64 (mx a10703 0)), (10, .int .i64 (IntKind.i64.wrap (x11130 + 1))), (11, .int .i64 x11131)] (by kernel_rfl) ?_
                refine EL.done (by kernel_rfl) ?_
                refine EQ.pop ?_
                refine EQ.to ?_
                refine EQ.keep [0, 1, 2, 3, 10, 11] [(0, .slice (some ad11172) l10698.length C10700), (1, .int .i64 a10701), (2, .int .i64 (mx a10702 0)), (3, .int .i64 (mx a10703 0)), (10, .int .i64 (IntKind.i64.wrap (x11130 + 1))), (11, .int .i64 x11131)] (by kernel_rfl) ?_
                exact fun a ha => ⟨IntKind.i64.wrap (x11130 + 1), ha, (hS.re [] [] rfl (sub_cons 0 rfl (sub_tail (sub_self)))), H⟩
              · rw [if_neg h11173] at H
                refine EW.skip (by kernel_rfl) ?_
                refine EQ.pop ?_
                refine EQ.to ?_
                refine EQ.keep [0, 1, 2, 3, 10, 11] [(0, .slice (some ad11172) l10698.length C10700), (1, .int .i64 a10701), (2, .int .i64 (mx a10702 0)), (3, .int .i64 (mx a10703 0)), (10, .int .i64 x11130), (11, .int .i64 x11131)] (by kernel_rfl) ?_
                exact fun a ha => ⟨x11130, ha, (hS.re [] [] rfl (sub_cons 0 rfl (sub_tail (sub_self)))), H⟩
            · obtain ⟨x11167, ha, hS, H⟩ := hI
              rw [hj11168] at H
              (try dsimp only at H)
              refine EW.at ?_ a ha
              clear ha a
              refine EW.region (id := 7) (ops := C41.r.r.r.r.l.r.l.l.r.r.ops) (by kernel_rfl) ?_
              refine EL.quick 3 [0, 1, 2, 3, 10, 11] [(0, .slice A10699 l10698.length C10700), (1, .int .i64 a10701), (2, .int .i64 (mx a10702 0)), (3, .int .i64 (mx a10703 0)), (10, .int .i64 x11167), (11, .int .i64 (IntKind.i64.wrap (x11131 + 1)))] (by kernel_rfl) ?_
              refine EL.done (by kernel_rfl) ?_
              refine EQ.to ?_
              refine EQ.keep [0, 1, 2, 3, 10, 11] [(0, .slice A10699 l10698.length C10700), (1, .int .i64 a10701), (2, .int .i64 (mx a10702 0)), (3, .int .i64 (mx a10703 0)), (10, .int .i64 x11167), (11, .int .i64 (IntKind.i64.wrap (x11131 + 1)))] (by kernel_rfl) ?_
              exact fun a ha => ⟨n, Nat.lt_succ_self n, x11167, IntKind.i64.wrap (x11131 + 1), ha, (hS.re [] [] rfl (sub_cons 0 rfl (sub_tail (sub_self)))), H⟩
          · rw [if_neg h11156] at H
            refine EW.exit (id := 0) (by kernel_rfl) ?_
            refine EQ.exitCode ?_
            refine EQ.exitTo ?_
            refine EQ.exitHere ?_
            refine EQ.to ?_
            refine EQ.keep [0, 1, 2, 3, 10] [(0, .slice A10699 l10698.length C10700), (1, .int .i64 a10701), (2, .int .i64 (mx a10702 0)), (3, .int .i64 (mx a10703 0)), (10, .int .i64 x11130)] (by kernel_rfl) ?_
            exact fun a ha => ⟨x11130, ha, (hS.re [] [] rfl (sub_cons 0 rfl (sub_tail (sub_self)))), H⟩
      · obtain ⟨x11111, ha, hS, H⟩ := hI
        rw [hj11112] at H
        (try dsimp only at H)
        refine EW.at ?_ a ha
        clear ha a
        refine EW.seq (x := C41.r.r.r.r.r.l) (y := C41.r.r.r.r.r.r) (by kernel_rfl) ?_
        refine EW.region (id := 10) (ops := C41.r.r.r.r.r.l.ops) (by kernel_rfl) ?_
        refine EL.quick 5 [0, 1, 2, 3, 10, 41, 43] [(0, .slice A10699 l10698.length C10700), (1, .int .i64 a10701), (2, .int .i64 (mx a10702 0)), (3, .int .i64 (mx a10703 0)), (10, .int .i64 x11111), (41, .int .i64 (IntKind.i64.wrap ((mx a10703 0) - (mx a10702 0)))), (43, .int .i64 (l10698.length : Int))] (by kernel_rfl) ?_
        obtain ⟨h11176, H⟩ := ite_out H
        refine EL.of (EO.Y (YO.div .quo .i64 (IntKind.i64.wrap ((mx a10703 0) - (mx a10702 0))) (l10698.length : Int) (IntKind.i64.wrap (Int.tdiv (IntKind.i64.wrap ((mx a10703 0) - (mx a10702 0))) (l10698.length : Int))) 44 (by kernel_rfl) (by kernel_rfl) (by kernel_rfl) h11176 (by first | exact .inl ⟨rfl, rfl⟩ | exact .inr ⟨rfl, rfl⟩)) ?_)
        refine EL.quick 3 [0, 1, 2, 3, 9] [(0, .slice A10699 l10698.length C10700), (1, .int .i64 a10701), (2, .int .i64 (mx a10702 0)), (3, .int .i64 (mx a10703 0)), (9, .int .i64 (IntKind.i64.wrap ((IntKind.i64.wrap (Int.tdiv (IntKind.i64.wrap ((mx a10703 0) - (mx a10702 0))) (l10698.length : Int))) * x11111)))] (by kernel_rfl) ?_
        obtain ⟨y11177, hy11177, H⟩ := lt_out H
        refine EL.keep [0, 1, 2, 3, 9] [(0, .slice A10699 l10698.length C10700), (1, .int .i64 a10701), (2, .int .i64 (mx a10702 0)), (3, .int .i64 (mx a10703 0)), (9, .int .i64 (IntKind.i64.wrap ((IntKind.i64.wrap (Int.tdiv (IntKind.i64.wrap ((mx a10703 0) - (mx a10702 0))) (l10698.length : Int))) * x11111)))] (by kernel_rfl) ?_
        refine EL.as' [(0, .slice A10699 l10698.length C10700), (1, .int .i64 a10701), (2, .int .i64 (mx a10702 0)), (3, .int .i64 (mx a10703 0)), (9, .int .i64 y11177)] (by subst hy11177; rfl) ?_
        refine EL.done (by kernel_rfl) ?_
        refine EQ.code ?_
        refine EW.seq (x := C41.r.r.r.r.r.r.l) (y := C41.r.r.r.r.r.r.r) (by kernel_rfl) ?_
        refine EW.seq (x := C41.r.r.r.r.r.r.l.l) (y := C41.r.r.r.r.r.r.l.r) (by kernel_rfl) ?_
        refine EW.region (id := 11) (ops := C41.r.r.r.r.r.r.l.l.ops) (by kernel_rfl) ?_
        refine EL.quick 6 [0, 1, 3, 9, 47, 50, 52] [(0, .slice A10699 l10698.length C10700), (1, .int .i64 a10701), (3, .int .i64 (mx a10703 0)), (9, .int .i64 y11177), (47, .int .i64 (mx a10703 0)), (50, .int .i64 (IntKind.i64.wrap ((mx a10703 0) - (mx a10702 0)))), (52, .int .i64 (l10698.length : Int))] (by kernel_rfl) ?_
        refine EL.of (EO.Y (YO.div .rem .i64 (IntKind.i64.wrap ((mx a10703 0) - (mx a10702 0))) (l10698.length : Int) (Int.tmod (IntKind.i64.wrap ((mx a10703 0) - (mx a10702 0))) (l10698.length : Int)) 53 (by kernel_rfl) (by kernel_rfl) (by kernel_rfl) h11176 (by first | exact .inl ⟨rfl, rfl⟩ | exact .inr ⟨rfl, rfl⟩)) ?_)
        refine EL.quick 2 [0, 1, 3, 9, 12] [(0, .slice A10699 l10698.length C10700), (1, .int .i64 a10701), (3, .int .i64 (mx a10703 0)), (9, .int .i64 y11177), (12, .int .i64 (IntKind.i64.wrap ((mx a10703 0) - (Int.tmod (IntKind.i64.wrap ((mx a10703 0) - (mx a10702 0))) (l10698.length : Int)))))] (by kernel_rfl) ?_
        obtain ⟨y11181, hy11181, H⟩ := lt_out H
        refine EL.keep [0, 1, 3, 9, 12] [(0, .slice A10699 l10698.length C10700), (1, .int .i64 a10701), (3, .int .i64 (mx a10703 0)), (9, .int .i64 y11177), (12, .int .i64 (IntKind.i64.wrap ((mx a10703 0) - (Int.tmod (IntKind.i64.wrap ((mx a10703 0) - (mx a10702 0))) (l10698.length : Int)))))] (by kernel_rfl) ?_
        refine EL.as' [(0, .slice A10699 l10698.length C10700), (1, .int .i64 a10701), (3, .int .i64 (mx a10703 0)), (9, .int .i64 y11177), (12, .int .i64 y11181)] (by subst hy11181; rfl) ?_
        refine EL.done (by kernel_rfl) ?_
        refine EQ.code ?_
        refine EW.block (x := C41.r.r.r.r.r.r.l.r.l) (id := 2) (by kernel_rfl) ?_
        refine EW.loop (x := C41.r.r.r.r.r.r.l.r.l.l) (fun n a w => ∃ x11205 : Int, ∃ x11206 : Int, Sat 68 [(0, .slice A10699 l10698.length C10700), (1, .int .i64 a10701), (3, .int .i64 (mx a10703 0)), (9, .int .i64 x11205), (12, .int .i64 x11206)] a ∧ St B w (os) (Ro.sl (Kd.int .i64) A10699 C10700 l10698 :: rs) ∧ confidantref15_Slots.l1 K a10703 l10698 a10701 n x11205 x11206 = some x10976) K (by kernel_rfl) ?_ (fun n a w hI => ?_)
        · refine EQ.keep [0, 1, 3, 9, 12] [(0, .slice A10699 l10698.length C10700), (1, .int .i64 a10701), (3, .int .i64 (mx a10703 0)), (9, .int .i64 y11177), (12, .int .i64 y11181)] (by kernel_rfl) ?_
          exact fun a ha => ⟨y11177, y11181, ha, (hS.re [] [] rfl (sub_cons 0 rfl (sub_tail (sub_self)))), H⟩
        · obtain ⟨x11205, x11206, ha, hS, H⟩ := hI
          obtain _ | n := n
          · simp [confidantref15_Slots.l1] at H
          rw [confidantref15_Slots.l1.eq_2] at H
          refine EW.at ?_ a ha
          clear ha a
          refine EW.seq (x := C41.r.r.r.r.r.r.l.r.l.l.l) (y := C41.r.r.r.r.r.r.l.r.l.l.r) (by kernel_rfl) ?_
          refine EW.seq (x := C41.r.r.r.r.r.r.l.r.l.l.l.l) (y := C41.r.r.r.r.r.r.l.r.l.l.l.r) (by kernel_rfl) ?_
          refine EW.region (id := 12) (ops := C41.r.r.r.r.r.r.l.r.l.l.l.l.ops) (by kernel_rfl) ?_
          refine EL.quick 3 [0, 1, 3, 9, 12, 57] [(0, .slice A10699 l10698.length C10700), (1, .int .i64 a10701), (3, .int .i64 (mx a10703 0)), (9, .int .i64 x11205), (12, .int .i64 x11206), (57, .bool (decide (x11206 < (mx a10703 0))))] (by kernel_rfl) ?_
          refine EL.done (by kernel_rfl) ?_
          refine EQ.code ?_
          refine EW.condP (o := (.tmp 57)) (x := C41.r.r.r.r.r.r.l.r.l.l.l.r.l) (y := C41.r.r.r.r.r.r.l.r.l.l.l.r.r) (x11206 < (mx a10703 0)) (by kernel_rfl) (by kernel_rfl) (fun h11231 => ?_) (fun h11231 => ?_)
          · rw [if_pos h11231] at H
            refine EW.skip (by kernel_rfl) ?_
            refine EQ.code ?_
            obtain ⟨j11243, hj11243, H⟩ := lt_out H
            refine EW.cut (x := C41.r.r.r.r.r.r.l.r.l.l.r.l) (y := C41.r.r.r.r.r.r.l.r.l.l.r.r) (fun a w => ∃ x11242 : Int, Sat 68 [(0, .slice A10699 l10698.length C10700), (1, .int .i64 a10701), (3, .int .i64 (mx a10703 0)), (9, .int .i64 x11242), (12, .int .i64 x11206)] a ∧ St B w (os) (Ro.sl (Kd.int .i64) A10699 C10700 l10698 :: Ro.sl (Kd.int .i64) A10699 C10700 l10698 :: rs) ∧ j11243 x11242 = some x10976) (by kernel_rfl) ?_ (fun a w hI => ?_)
            · refine EW.block (x := C41.r.r.r.r.r.r.l.r.l.l.r.l.l) (id := 3) (by kernel_rfl) ?_
              refine EW.seq (x := C41.r.r.r.r.r.r.l.r.l.l.r.l.l.l) (y := C41.r.r.r.r.r.r.l.r.l.l.r.l.l.r) (by kernel_rfl) ?_
              refine EW.region (id := 14) (ops := C41.r.r.r.r.r.r.l.r.l.l.r.l.l.l.ops) (by kernel_rfl) ?_
              refine EL.quick 2 [0, 1, 3, 9, 12, 60, 61] [(0, .slice A10699 l10698.length C10700), (1, .int .i64 a10701), (3, .int .i64 (mx a10703 0)), (9, .int .i64 x11205), (12, .int .i64 x11206), (60, .slice A10699 l10698.length C10700), (61, .int .i64 x11206)] (by kernel_rfl) ?_
              have hS : St B _ (os) (Ro.sl (Kd.int .i64) A10699 C10700 l10698 :: Ro.sl (Kd.int .i64) A10699 C10700 l10698 :: rs) := hS.re [] [] rfl (sub_cons 0 rfl sub_self)
              obtain ⟨t11246, hc11247, H⟩ := b1_out H
              refine EL.of (EO.callD 37 [.slice A10699 l10698.length C10700, .int .i64 x11206] _ 62 (by kernel_rfl) (by kernel_rfl) (by kernel_rfl) (confidantref15_At.calls hc11247 hS) ?_)
              rintro v w ⟨rfl, hS⟩
              refine EL.quick 2 [0, 1, 3, 9, 12, 64] [(0, .slice A10699 l10698.length C10700), (1, .int .i64 a10701), (3, .int .i64 (mx a10703 0)), (9, .int .i64 x11205), (12, .int .i64 x11206), (64, .bool (decide (t11246 = a10701)))] (by kernel_rfl) ?_
              refine EL.done (by kernel_rfl) ?_
              refine EQ.code ?_
              refine EW.condP (o := (.tmp 64)) (x := C41.r.r.r.r.r.r.l.r.l.l.r.l.l.r.l) (y := C41.r.r.r.r.r.r.l.r.l.l.r.l.l.r.r) (t11246 = a10701) (by kernel_rfl) (by kernel_rfl) (fun h11248 => ?_) (fun h11248 => ?_)
              · rw [if_pos h11248] at H
                refine EW.region (id := 15) (ops := C41.r.r.r.r.r.r.l.r.l.l.r.l.l.r.l.ops) (by kernel_rfl) ?_
                refine EL.quick 3 [0, 1, 3, 9, 12] [(0, .slice A10699 l10698.length C10700), (1, .int .i64 a10701), (3, .int .i64 (mx a10703 0)), (9, .int .i64 (IntKind.i64.wrap (x11205 + 1))), (12, .int .i64 x11206)] (by kernel_rfl) ?_
                refine EL.done (by kernel_rfl) ?_
                refine EQ.pop ?_
                refine EQ.to ?_
                refine EQ.keep [0, 1, 3, 9, 12] [(0, .slice A10699 l10698.length C10700), (1, .int .i64 a10701), (3, .int .i64 (mx a10703 0)), (9, .int .i64 (IntKind.i64.wrap (x11205 + 1))), (12, .int .i64 x11206)] (by kernel_rfl) ?_
                exact fun a ha => ⟨IntKind.i64.wrap (x11205 + 1), ha, (hS.re [] [] rfl (sub_cons 0 rfl (sub_cons 0 rfl (sub_tail (sub_tail (sub_self)))))), H⟩
              · rw [if_neg h11248] at H
                refine EW.skip (by kernel_rfl) ?_
                refine EQ.pop ?_
                refine EQ.to ?_
                refine EQ.keep [0, 1, 3, 9, 12] [(0, .slice A10699 l10698.length C10700), (1, .int .i64 a10701), (3, .int .i64 (mx a10703 0)), (9, .int .i64 x11205), (12, .int .i64 x11206)] (by kernel_rfl) ?_
                exact fun a ha => ⟨x11205, ha, (hS.re [] [] rfl (sub_cons 0 rfl (sub_cons 0 rfl (sub_tail (sub_tail (sub_self)))))), H⟩
            · obtain ⟨x11242, ha, hS, H⟩ := hI
              rw [hj11243] at H
              (try dsimp only at H)
              refine EW.at ?_ a ha
              clear ha a
              refine EW.region (id := 13) (ops := C41.r.r.r.r.r.r.l.r.l.l.r.r.ops) (by kernel_rfl) ?_
              refine EL.quick 3 [0, 1, 3, 9, 12] [(0, .slice A10699 l10698.length C10700), (1, .int .i64 a10701), (3, .int .i64 (mx a10703 0)), (9, .int .i64 x11242), (12, .int .i64 (IntKind.i64.wrap (x11206 + 1)))] (by kernel_rfl) ?_
              refine EL.done (by kernel_rfl) ?_
              refine EQ.to ?_
              refine EQ.keep [0, 1, 3, 9, 12] [(0, .slice A10699 l10698.length C10700), (1, .int .i64 a10701), (3, .int .i64 (mx a10703 0)), (9, .int .i64 x11242), (12, .int .i64 (IntKind.i64.wrap (x11206 + 1)))] (by kernel_rfl) ?_
              exact fun a ha => ⟨n, Nat.lt_succ_self n, x11242, IntKind.i64.wrap (x11206 + 1), ha, (hS.re [] [] rfl (sub_cons 0 rfl (sub_tail (sub_tail (sub_self))))), H⟩
          · rw [if_neg h11231] at H
            refine EW.exit (id := 2) (by kernel_rfl) ?_
            refine EQ.exitCode ?_
            refine EQ.exitTo ?_
            refine EQ.exitHere ?_
            refine EQ.code ?_
            refine EW.seq (x := C41.r.r.r.r.r.r.r.l) (y := C41.r.r.r.r.r.r.r.r) (by kernel_rfl) ?_
            refine EW.region (id := 16) (ops := C41.r.r.r.r.r.r.r.l.ops) (by kernel_rfl) ?_
            refine EL.quick 2 [8] [(8, .int .i64 x11205)] (by kernel_rfl) ?_
            refine EL.done (by kernel_rfl) ?_
            refine EQ.code ?_
            refine EW.ret (by kernel_rfl) ?_
            obtain rfl := Option.some.inj H
            exact EQ.leave (.int .i64 x11205) (by kernel_rfl) ⟨_, rfl, rfl, (hS.re [] [] rfl (sub_self))⟩

end Go.Proofs.Ytjfnejcanlkknaa.G
