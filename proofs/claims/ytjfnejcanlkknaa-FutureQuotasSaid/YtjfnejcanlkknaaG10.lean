import Derived.Test.YtjfnejcanlkknaaProg
import Derived.Test.YtjfnejcanlkknaaFwEq
import Derived.Test.YtjfnejcanlkknaaFwOpen
import Derived.Test.YtjfnejcanlkknaaG0
import Derived.Test.YtjfnejcanlkknaaG1
import Derived.Test.YtjfnejcanlkknaaG2
import Derived.Test.YtjfnejcanlkknaaG3
import Derived.Test.YtjfnejcanlkknaaG9
namespace Go.Proofs.Ytjfnejcanlkknaa.G
open Go Go.Fw Go.RowKit Go.Proofs
set_option linter.unusedVariables false
set_option linter.unusedSimpArgs false

/-! ### confidant/confidantlaw13.FutureQuotas: function 13 -/
def confidantlaw13_FutureQuotas.l2 (K : Nat) (a8 : Int) (t19598 : List Int) (x33829 : Int) (x19475 : List Int) (j38202 : (List (List S75)) → Option Bool) : Nat → (List (List S75)) → Int → Option Bool
  | 0, _, _ => none
  | n + 1, x38287, x38290 => if x38290 < (IntKind.i64.wrap (Int.tmod a8 8)) then (b3 (future_Futures_Make.f K x38287 t19598 x33829 3) fun (t38420 : List (List S75)) (t38421 : Int) (t38422 : Bool) => (lt (fun (x38441 : Bool) => (if x38441 = true then (some false) else (confidantlaw13_FutureQuotas.l2 K a8 t19598 x33829 x19475 j38202 n t38420 (IntKind.i64.wrap (x38290 + 1))))) fun j38442 => (if x33829 < 16 then (if 0 ≤ x33829 then (if (t38422 == (decide (x38290 < (mx (x19475.getD x33829.toNat 0) 0)))) = true then (if t38422 = true then (j38442 (!(decide ((IntKind.i64.wrap t38421) = (IntKind.i64.wrap ((IntKind.i64.wrap (x33829 * 65536)) + x38290)))))) else (j38442 false)) else (j38442 true)) else none) else (if (t38422 == false) = true then (if t38422 = true then (j38442 (!(decide ((IntKind.i64.wrap t38421) = (IntKind.i64.wrap ((IntKind.i64.wrap (x33829 * 65536)) + x38290)))))) else (j38442 false)) else (j38442 true))))) else (j38202 x38287)
def confidantlaw13_FutureQuotas.l1 (K : Nat) (x19475 : List Int) (t19598 : List Int) (a8 : Int) (j32183 : (List (List S75)) → Option Bool) : Nat → (List (List S75)) → Int → Option Bool
  | 0, _, _ => none
  | n + 1, x33826, x33829 => if x33829 < (x19475.length : Int) then (lt (fun (x37696 : List (List S75)) => (confidantlaw13_FutureQuotas.l1 K x19475 t19598 a8 j32183 n x37696 (IntKind.i64.wrap (x33829 + 1)))) fun j37699 => (lt (fun (x38199 : List (List S75)) => (lt (fun (x38462 : Bool) => (if x38462 = true then (some false) else (j37699 x38199))) fun j38463 => (if x33829 < 16 then (b1 (future_Futures_Count.f K x38199 t19598 x33829) fun (t38465 : Int) => (if 0 ≤ x33829 then (j38463 (!(decide (t38465 = (mn (IntKind.i64.wrap (Int.tmod a8 8)) (mx (x19475.getD x33829.toNat 0) 0)))))) else none)) else (j38463 false)))) fun j38202 => (confidantlaw13_FutureQuotas.l2 K a8 t19598 x33829 x19475 j38202 K x33826 0))) else (j32183 x33826)
def confidantlaw13_FutureQuotas.l0 (K : Nat) (l5 : List Int) (j19480 : (List Int) → Option Bool) : Nat → (List Int) → Int → Option Bool
  | 0, _, _ => none
  | n + 1, x19539, x19543 => if x19543 < (l5.length : Int) then (if 0 ≤ x19543 then (lt ([IntKind.i64.wrap ((IntKind.i64.wrap (Int.tmod (l5.getD x19543.toNat 0) 6)) - 1)] : List Int) fun l19584 => (if (x19539.length + l19584.length) * 8 ≤ 140737488355328 then (lt (x19539 ++ l19584) fun l19586 => (confidantlaw13_FutureQuotas.l0 K l5 j19480 n l19586 (IntKind.i64.wrap (x19543 + 1)))) else none)) else none) else (j19480 x19539)
def confidantlaw13_FutureQuotas.f (K : Nat) (l5 : List Int) (a8 : Int) : Option Bool := b1 (confidantlaw13_known.f K) fun (t19249 : Bool) => (if t19249 = true then (if (l5.length : Int) > 20 then (some true) else (lt (fun (x19475 : List Int) => (b2 (future_New.f K x19475) fun (t19597 : List (List S75)) (t19598 : List Int) => (lt (fun (x32180 : List (List S75)) => (b1 (future_Futures_All.f K x32180 t19598) fun (t38470 : List (List S75)) => (some (decide ((t38470.length : Int) = (mn (x19475.length : Int) 16)))))) fun j32183 => (confidantlaw13_FutureQuotas.l1 K x19475 t19598 a8 j32183 K t19597 0)))) fun j19480 => (confidantlaw13_FutureQuotas.l0 K l5 j19480 K ([] : List Int) 0))) else (some false))
set_option maxRecDepth 100000 in
theorem confidantlaw13_FutureQuotas.calls {K : Nat} {l5 : List Int} {a8 : Int} {A6 : Option Addr} {C7 : Nat} {x19241 : Bool} {B w : World} {os : List Ass} {rs : List Ro} (H : confidantlaw13_FutureQuotas.f K l5 a8 = some x19241) (hS : St B w (os) (Ro.sl (Kd.int .u8) A6 C7 l5 :: rs)) :
    Calls Try.prog 13 [.slice A6 l5.length C7, .int .u8 a8].toArray w (fun en w' => ∃ v, en = .returned v ∧ v = .bool (x19241) ∧ St B w' (os) (Ro.sl (Kd.int .u8) A6 C7 l5 :: rs)) := by
  unfold confidantlaw13_FutureQuotas.f at H
  refine calls_of_EW (args := [.slice A6 l5.length C7, .int .u8 a8]) (c := Cd13) 103 Try.func13 (by kernel_rfl) (by kernel_rfl) (by kernel_rfl) ?_
  refine EW.seq (x := Cd13.l) (y := Cd13.r) (by kernel_rfl) ?_
  refine EW.region (id := 0) (ops := Cd13.l.ops) (by kernel_rfl) ?_
  refine EL.quick 1 [0, 1] [(0, .slice A6 l5.length C7), (1, .int .u8 a8)] (by kernel_rfl) ?_
  refine EL.done (by kernel_rfl) ?_
  refine EQ.code ?_
  refine EW.seq (x := Cd13.r.l) (y := Cd13.r.r) (by kernel_rfl) ?_
  refine EW.seq (x := Cd13.r.l.l) (y := Cd13.r.l.r) (by kernel_rfl) ?_
  refine EW.region (id := 1) (ops := Cd13.r.l.l.ops) (by kernel_rfl) ?_
  obtain ⟨t19249, hc19250, H⟩ := b1_out H
  refine EL.of (EO.callD 42 [] _ 12 (by kernel_rfl) (by kernel_rfl) (by kernel_rfl) (confidantlaw13_known.calls hc19250 hS) ?_)
  rintro v w ⟨rfl, hS⟩
  refine EL.quick 1 [0, 1, 13] [(0, .slice A6 l5.length C7), (1, .int .u8 a8), (13, .bool (!(t19249)))] (by kernel_rfl) ?_
  refine EL.done (by kernel_rfl) ?_
  refine EQ.code ?_
  refine EW.condQ (b := !(t19249)) (o := (.tmp 13)) (x := Cd13.r.l.r.l) (y := Cd13.r.l.r.r) (t19249 = true) (false) (by kernel_rfl) (by kernel_rfl) ⟨fun h => (by rw [h] <;> rfl), fun h => (by rw [Bool.eq_false_iff.2 h] <;> rfl)⟩ (fun h19251 => ?_) (fun h19251 => ?_)
  · rw [if_pos h19251] at H
    refine EW.skip (by kernel_rfl) ?_
    refine EQ.code ?_
    refine EW.seq (x := Cd13.r.r.l) (y := Cd13.r.r.r) (by kernel_rfl) ?_
    refine EW.seq (x := Cd13.r.r.l.l) (y := Cd13.r.r.l.r) (by kernel_rfl) ?_
    refine EW.region (id := 3) (ops := Cd13.r.r.l.l.ops) (by kernel_rfl) ?_
    refine EL.quick 3 [0, 1, 16] [(0, .slice A6 l5.length C7), (1, .int .u8 a8), (16, .bool (decide ((l5.length : Int) > 20)))] (by kernel_rfl) ?_
    refine EL.done (by kernel_rfl) ?_
    refine EQ.code ?_
    refine EW.condP (o := (.tmp 16)) (x := Cd13.r.r.l.r.l) (y := Cd13.r.r.l.r.r) ((l5.length : Int) > 20) (by kernel_rfl) (by kernel_rfl) (fun h19253 => ?_) (fun h19253 => ?_)
    · rw [if_pos h19253] at H
      refine EW.seq (x := Cd13.r.r.l.r.l.l) (y := Cd13.r.r.l.r.l.r) (by kernel_rfl) ?_
      refine EW.region (id := 4) (ops := Cd13.r.r.l.r.l.l.ops) (by kernel_rfl) ?_
      refine EL.quick 1 [4] [(4, .bool (true))] (by kernel_rfl) ?_
      refine EL.done (by kernel_rfl) ?_
      refine EQ.code ?_
      refine EW.ret (by kernel_rfl) ?_
      refine EQ.ret ?_
      obtain rfl := Option.some.inj H
      exact EQ.leave (.bool (true)) (by kernel_rfl) ⟨_, rfl, rfl, (hS.re [] [] rfl (sub_self))⟩
    · rw [if_neg h19253] at H
      refine EW.skip (by kernel_rfl) ?_
      refine EQ.code ?_
      refine EW.seq (x := Cd13.r.r.r.l) (y := Cd13.r.r.r.r) (by kernel_rfl) ?_
      refine EW.region (id := 5) (ops := Cd13.r.r.r.l.ops) (by kernel_rfl) ?_
      refine EL.quick 1 [0, 1, 5] [(0, .slice A6 l5.length C7), (1, .int .u8 a8), (5, .slice none ([] : List Int).length 0)] (by kernel_rfl) ?_
      refine EL.done (by kernel_rfl) ?_
      refine EQ.code ?_
      obtain ⟨j19480, hj19480, H⟩ := lt_out H
      refine EW.cut (x := Cd13.r.r.r.r.l) (y := Cd13.r.r.r.r.r) (fun a w => ∃ x19475 : List Int, ∃ A19476 : Option Addr, ∃ C19477 : Nat, Sat 103 [(1, .int .u8 a8), (5, .slice A19476 x19475.length C19477)] a ∧ St B w (Ass.own 3 (Kd.int .i64) A19476 C19477 x19475 :: os) (Ro.sl (Kd.int .u8) A6 C7 l5 :: rs) ∧ j19480 x19475 = some x19241) (by kernel_rfl) ?_ (fun a w hI => ?_)
      · refine EW.seq (x := Cd13.r.r.r.r.l.l) (y := Cd13.r.r.r.r.l.r) (by kernel_rfl) ?_
        refine EW.region (id := 6) (ops := Cd13.r.r.r.r.l.l.ops) (by kernel_rfl) ?_
        refine EL.quick 1 [0, 1, 5, 6] [(0, .slice A6 l5.length C7), (1, .int .u8 a8), (5, .slice none ([] : List Int).length 0), (6, .int .i64 0)] (by kernel_rfl) ?_
        refine EL.done (by kernel_rfl) ?_
        refine EQ.code ?_
        refine EW.block (x := Cd13.r.r.r.r.l.r.l) (id := 0) (by kernel_rfl) ?_
        have hS := St.nilO hS 3 (Kd.int .i64)
        refine EW.loop (x := Cd13.r.r.r.r.l.r.l.l) (fun n a w => ∃ x19539 : List Int, ∃ x19543 : Int, ∃ A19540 : Option Addr, ∃ C19541 : Nat, Sat 103 [(0, .slice A6 l5.length C7), (1, .int .u8 a8), (5, .slice A19540 x19539.length C19541), (6, .int .i64 x19543)] a ∧ St B w (Ass.own 3 (Kd.int .i64) A19540 C19541 x19539 :: os) (Ro.sl (Kd.int .u8) A6 C7 l5 :: rs) ∧ confidantlaw13_FutureQuotas.l0 K l5 j19480 n x19539 x19543 = some x19241) K (by kernel_rfl) ?_ (fun n a w hI => ?_)
        · refine EQ.keep [0, 1, 5, 6] [(0, .slice A6 l5.length C7), (1, .int .u8 a8), (5, .slice none ([] : List Int).length 0), (6, .int .i64 0)] (by kernel_rfl) ?_
          exact fun a ha => ⟨([] : List Int), 0, none, 0, ha, (hS.re [0] [] rfl (sub_cons 0 rfl (sub_tail (sub_self)))), H⟩
        · obtain ⟨x19539, x19543, A19540, C19541, ha, hS, H⟩ := hI
          obtain _ | n := n
          · simp [confidantlaw13_FutureQuotas.l0] at H
          rw [confidantlaw13_FutureQuotas.l0.eq_2] at H
          refine EW.at ?_ a ha
          clear ha a
          refine EW.seq (x := Cd13.r.r.r.r.l.r.l.l.l) (y := Cd13.r.r.r.r.l.r.l.l.r) (by kernel_rfl) ?_
          refine EW.seq (x := Cd13.r.r.r.r.l.r.l.l.l.l) (y := Cd13.r.r.r.r.l.r.l.l.l.r) (by kernel_rfl) ?_
          refine EW.region (id := 7) (ops := Cd13.r.r.r.r.l.r.l.l.l.l.ops) (by kernel_rfl) ?_
          refine EL.quick 4 [0, 1, 5, 6, 20] [(0, .slice A6 l5.length C7), (1, .int .u8 a8), (5, .slice A19540 x19539.length C19541), (6, .int .i64 x19543), (20, .bool (decide (x19543 < (l5.length : Int))))] (by kernel_rfl) ?_
          refine EL.done (by kernel_rfl) ?_
          refine EQ.code ?_
          refine EW.condP (o := (.tmp 20)) (x := Cd13.r.r.r.r.l.r.l.l.l.r.l) (y := Cd13.r.r.r.r.l.r.l.l.l.r.r) (x19543 < (l5.length : Int)) (by kernel_rfl) (by kernel_rfl) (fun h19572 => ?_) (fun h19572 => ?_)
          · rw [if_pos h19572] at H
            refine EW.skip (by kernel_rfl) ?_
            refine EQ.code ?_
            refine EW.seq (x := Cd13.r.r.r.r.l.r.l.l.r.l) (y := Cd13.r.r.r.r.l.r.l.l.r.r) (by kernel_rfl) ?_
            refine EW.block (x := Cd13.r.r.r.r.l.r.l.l.r.l.l) (id := 1) (by kernel_rfl) ?_
            refine EW.region (id := 9) (ops := Cd13.r.r.r.r.l.r.l.l.r.l.l.ops) (by kernel_rfl) ?_
            refine EL.quick 3 [0, 1, 6, 23, 24, 25] [(0, .slice A6 l5.length C7), (1, .int .u8 a8), (6, .int .i64 x19543), (23, .slice A19540 x19539.length C19541), (24, .slice A6 l5.length C7), (25, .int .i64 x19543)] (by kernel_rfl) ?_
            obtain ⟨h19581, H⟩ := ite_in H
            obtain ⟨ad19582, rfl⟩ := St.rd_some hS (Rd.ro 0 rfl) h19581 h19572
            refine EL.of (EO.Y (YO.idx 22 1 ad19582 l5.length C7 .i64 x19543 26 (by kernel_rfl) (by kernel_rfl) (by kernel_rfl) (by kernel_rfl) h19581 h19572) ?_)
            refine EL.of (EO.Y (YO.loadEl hS (Kd.int .u8) ad19582 C7 l5 (Rd.ro 0 rfl) 0 (encI .u8) encI_of x19543 h19581 h19572 5 1 0 1 rfl (.int .u8 (l5.getD x19543.toNat 0)) 27 (by kernel_rfl) (by kernel_rfl) (by kernel_rfl) (by kernel_rfl)) ?_)
            refine EL.quick 3 [0, 1, 6, 23, 30] [(0, .slice (some ad19582) l5.length C7), (1, .int .u8 a8), (6, .int .i64 x19543), (23, .slice A19540 x19539.length C19541), (30, .int .i64 (IntKind.i64.wrap ((IntKind.i64.wrap (Int.tmod (l5.getD x19543.toNat 0) 6)) - 1)))] (by kernel_rfl) ?_
            obtain ⟨l19584, hl19584, H⟩ := lt_out H
            refine EL.of (EO.lit hS (Kd.int .i64) 3 24 1 #[(0, .int .i64 (IntKind.i64.wrap ((IntKind.i64.wrap (Int.tmod (l5.getD x19543.toNat 0) 6)) - 1)))] [.int .i64 (IntKind.i64.wrap ((IntKind.i64.wrap (Int.tmod (l5.getD x19543.toNat 0) 6)) - 1))] l19584 31 (by kernel_rfl) (by kernel_rfl) (by kernel_rfl) (fun _ => (by kernel_rfl)) (by rw [hl19584]; rfl) (by kernel_rfl) (fun w G hr => (by rw [hl19584]; exact ⟨[.int .i64 (IntKind.i64.wrap ((IntKind.i64.wrap (Int.tmod (l5.getD x19543.toNat 0) 6)) - 1))], [], rfl, rfl, rfl⟩)) ?_)
            intro g19583 w hS
            obtain ⟨h19585, H⟩ := ite_in H
            obtain ⟨l19586, hl19586, H⟩ := lt_out H
            refine EL.of (EO.append hS 24 24 3 8 1 (Kd.int .i64) A19540 C19541 x19539 rfl (some ⟨g19583, 0, none⟩) 1 l19584 (Rd.own 0 3 rfl) l19586 hl19586 (fun A19587 C19588 => Ass.own 3 (Kd.int .i64) (some ⟨g19583, 0, none⟩) 1 l19584 :: Ass.own 3 (Kd.int .i64) A19587 C19588 l19586 :: os) 32 (by kernel_rfl) (by kernel_rfl) (by kernel_rfl) (by kernel_rfl) h19585 (fun _ _ => rfl) ?_)
            intro A19587 C19588 w hS
            refine EL.quick 1 [0, 1, 5, 6] [(0, .slice (some ad19582) l5.length C7), (1, .int .u8 a8), (5, .slice A19587 l19586.length C19588), (6, .int .i64 x19543)] (by kernel_rfl) ?_
            refine EL.done (by kernel_rfl) ?_
            refine EQ.pop ?_
            refine EQ.code ?_
            refine EW.region (id := 8) (ops := Cd13.r.r.r.r.l.r.l.l.r.r.ops) (by kernel_rfl) ?_
            refine EL.quick 3 [0, 1, 5, 6] [(0, .slice (some ad19582) l5.length C7), (1, .int .u8 a8), (5, .slice A19587 l19586.length C19588), (6, .int .i64 (IntKind.i64.wrap (x19543 + 1)))] (by kernel_rfl) ?_
            refine EL.done (by kernel_rfl) ?_
            refine EQ.to ?_
            refine EQ.keep [0, 1, 5, 6] [(0, .slice (some ad19582) l5.length C7), (1, .int .u8 a8), (5, .slice A19587 l19586.length C19588), (6, .int .i64 (IntKind.i64.wrap (x19543 + 1)))] (by kernel_rfl) ?_
            exact fun a ha => ⟨n, Nat.lt_succ_self n, l19586, IntKind.i64.wrap (x19543 + 1), A19587, C19588, ha, (hS.re [1] [1] rfl (sub_cons 0 rfl (sub_tail (sub_self)))), H⟩
          · rw [if_neg h19572] at H
            refine EW.exit (id := 0) (by kernel_rfl) ?_
            refine EQ.exitCode ?_
            refine EQ.exitTo ?_
            refine EQ.exitHere ?_
            refine EQ.to ?_
            refine EQ.keep [1, 5] [(1, .int .u8 a8), (5, .slice A19540 x19539.length C19541)] (by kernel_rfl) ?_
            exact fun a ha => ⟨x19539, A19540, C19541, ha, (hS.re [0] [] rfl (sub_cons 0 rfl (sub_tail (sub_self)))), H⟩
      · obtain ⟨x19475, A19476, C19477, ha, hS, H⟩ := hI
        rw [hj19480] at H
        (try dsimp only at H)
        refine EW.at ?_ a ha
        clear ha a
        refine EW.seq (x := Cd13.r.r.r.r.r.l) (y := Cd13.r.r.r.r.r.r) (by kernel_rfl) ?_
        refine EW.region (id := 10) (ops := Cd13.r.r.r.r.r.l.ops) (by kernel_rfl) ?_
        refine EL.quick 1 [1, 5, 33] [(1, .int .u8 a8), (5, .slice A19476 x19475.length C19477), (33, .slice A19476 x19475.length C19477)] (by kernel_rfl) ?_
        have hS := St.fr hS 0 rfl
        have hS : St B _ (os) (Ro.sl (Kd.int .i64) A19476 C19477 x19475 :: Ro.sl (Kd.int .i64) A19476 C19477 x19475 :: Ro.sl (Kd.int .u8) A6 C7 l5 :: rs) := hS.re [] [] rfl (sub_cons 0 rfl sub_self)
        obtain ⟨t19597, t19598, hc19604, H⟩ := b2_out H
        refine EL.of (EO.callD 44 [.slice A19476 x19475.length C19477] _ 34 (by kernel_rfl) (by kernel_rfl) (by kernel_rfl) (future_New.calls hc19604 hS) ?_)
        rintro v w ⟨g19599, A19600, C19601, A19602, C19603, rfl, hS⟩
        refine EL.quick 1 [1, 5, 7] [(1, .int .u8 a8), (5, .slice A19476 x19475.length C19477), (7, .pointer (some ⟨g19599, 0, none⟩))] (by kernel_rfl) ?_
        refine EL.done (by kernel_rfl) ?_
        refine EQ.code ?_
        obtain ⟨j32183, hj32183, H⟩ := lt_out H
        refine EW.cut (x := Cd13.r.r.r.r.r.r.l) (y := Cd13.r.r.r.r.r.r.r) (fun a w => ∃ x32180 : List (List S75), ∃ A32181 : Option Addr, ∃ C32182 : Nat, Sat 103 [(5, .slice A19476 x19475.length C19477), (7, .pointer (some ⟨g19599, 0, none⟩))] a ∧ St B w (Ass.box 99 g19599 [.slice A32181 x32180.length C32182, .slice A19602 t19598.length C19603] :: Ass.deep 87 75 kS75 A32181 C32182 x32180 :: Ass.own 3 (Kd.int .i64) A19602 C19603 t19598 :: os) (Ro.sl (Kd.int .i64) A19476 C19477 x19475 :: Ro.sl (Kd.int .i64) A19476 C19477 x19475 :: Ro.sl (Kd.int .u8) A6 C7 l5 :: rs) ∧ j32183 x32180 = some x19241) (by kernel_rfl) ?_ (fun a w hI => ?_)
        · refine EW.seq (x := Cd13.r.r.r.r.r.r.l.l) (y := Cd13.r.r.r.r.r.r.l.r) (by kernel_rfl) ?_
          refine EW.region (id := 11) (ops := Cd13.r.r.r.r.r.r.l.l.ops) (by kernel_rfl) ?_
          refine EL.quick 1 [1, 5, 7, 8] [(1, .int .u8 a8), (5, .slice A19476 x19475.length C19477), (7, .pointer (some ⟨g19599, 0, none⟩)), (8, .int .i64 0)] (by kernel_rfl) ?_
          refine EL.done (by kernel_rfl) ?_
          refine EQ.code ?_
          refine EW.block (x := Cd13.r.r.r.r.r.r.l.r.l) (id := 2) (by kernel_rfl) ?_
          refine EW.loop (x := Cd13.r.r.r.r.r.r.l.r.l.l) (fun n a w => ∃ x33826 : List (List S75), ∃ x33829 : Int, ∃ A33827 : Option Addr, ∃ C33828 : Nat, Sat 103 [(1, .int .u8 a8), (5, .slice A19476 x19475.length C19477), (7, .pointer (some ⟨g19599, 0, none⟩)), (8, .int .i64 x33829)] a ∧ St B w (Ass.box 99 g19599 [.slice A33827 x33826.length C33828, .slice A19602 t19598.length C19603] :: Ass.deep 87 75 kS75 A33827 C33828 x33826 :: Ass.own 3 (Kd.int .i64) A19602 C19603 t19598 :: os) (Ro.sl (Kd.int .i64) A19476 C19477 x19475 :: Ro.sl (Kd.int .i64) A19476 C19477 x19475 :: Ro.sl (Kd.int .u8) A6 C7 l5 :: rs) ∧ confidantlaw13_FutureQuotas.l1 K x19475 t19598 a8 j32183 n x33826 x33829 = some x19241) K (by kernel_rfl) ?_ (fun n a w hI => ?_)
          · refine EQ.keep [1, 5, 7, 8] [(1, .int .u8 a8), (5, .slice A19476 x19475.length C19477), (7, .pointer (some ⟨g19599, 0, none⟩)), (8, .int .i64 0)] (by kernel_rfl) ?_
            exact fun a ha => ⟨t19597, 0, A19600, C19601, ha, (hS.re [2, 2, 2] [] rfl (sub_cons 0 rfl (sub_cons 0 rfl (sub_cons 2 rfl (sub_tail (sub_tail (sub_tail (sub_self)))))))), H⟩
          · obtain ⟨x33826, x33829, A33827, C33828, ha, hS, H⟩ := hI
            obtain _ | n := n
            · simp [confidantlaw13_FutureQuotas.l1] at H
            rw [confidantlaw13_FutureQuotas.l1.eq_2] at H
            refine EW.at ?_ a ha
            clear ha a
            refine EW.seq (x := Cd13.r.r.r.r.r.r.l.r.l.l.l) (y := Cd13.r.r.r.r.r.r.l.r.l.l.r) (by kernel_rfl) ?_
            refine EW.seq (x := Cd13.r.r.r.r.r.r.l.r.l.l.l.l) (y := Cd13.r.r.r.r.r.r.l.r.l.l.l.r) (by kernel_rfl) ?_
            refine EW.region (id := 12) (ops := Cd13.r.r.r.r.r.r.l.r.l.l.l.l.ops) (by kernel_rfl) ?_
            refine EL.quick 4 [1, 5, 7, 8, 38] [(1, .int .u8 a8), (5, .slice A19476 x19475.length C19477), (7, .pointer (some ⟨g19599, 0, none⟩)), (8, .int .i64 x33829), (38, .bool (decide (x33829 < (x19475.length : Int))))] (by kernel_rfl) ?_
            refine EL.done (by kernel_rfl) ?_
            refine EQ.code ?_
            refine EW.condP (o := (.tmp 38)) (x := Cd13.r.r.r.r.r.r.l.r.l.l.l.r.l) (y := Cd13.r.r.r.r.r.r.l.r.l.l.l.r.r) (x33829 < (x19475.length : Int)) (by kernel_rfl) (by kernel_rfl) (fun h36155 => ?_) (fun h36155 => ?_)
            · rw [if_pos h36155] at H
              refine EW.skip (by kernel_rfl) ?_
              refine EQ.code ?_
              obtain ⟨j37699, hj37699, H⟩ := lt_out H
              refine EW.cut (x := Cd13.r.r.r.r.r.r.l.r.l.l.r.l) (y := Cd13.r.r.r.r.r.r.l.r.l.l.r.r) (fun a w => ∃ x37696 : List (List S75), ∃ A37697 : Option Addr, ∃ C37698 : Nat, Sat 103 [(1, .int .u8 a8), (5, .slice A19476 x19475.length C19477), (7, .pointer (some ⟨g19599, 0, none⟩)), (8, .int .i64 x33829)] a ∧ St B w (Ass.box 99 g19599 [.slice A37697 x37696.length C37698, .slice A19602 t19598.length C19603] :: Ass.deep 87 75 kS75 A37697 C37698 x37696 :: Ass.own 3 (Kd.int .i64) A19602 C19603 t19598 :: os) (Ro.sl (Kd.int .i64) A19476 C19477 x19475 :: Ro.sl (Kd.int .i64) A19476 C19477 x19475 :: Ro.sl (Kd.int .u8) A6 C7 l5 :: rs) ∧ j37699 x37696 = some x19241) (by kernel_rfl) ?_ (fun a w hI => ?_)
              · refine EW.block (x := Cd13.r.r.r.r.r.r.l.r.l.l.r.l.l) (id := 3) (by kernel_rfl) ?_
                obtain ⟨j38202, hj38202, H⟩ := lt_out H
                refine EW.cut (x := Cd13.r.r.r.r.r.r.l.r.l.l.r.l.l.l) (y := Cd13.r.r.r.r.r.r.l.r.l.l.r.l.l.r) (fun a w => ∃ x38199 : List (List S75), ∃ A38200 : Option Addr, ∃ C38201 : Nat, Sat 103 [(1, .int .u8 a8), (5, .slice A19476 x19475.length C19477), (7, .pointer (some ⟨g19599, 0, none⟩)), (8, .int .i64 x33829)] a ∧ St B w (Ass.box 99 g19599 [.slice A38200 x38199.length C38201, .slice A19602 t19598.length C19603] :: Ass.deep 87 75 kS75 A38200 C38201 x38199 :: Ass.own 3 (Kd.int .i64) A19602 C19603 t19598 :: os) (Ro.sl (Kd.int .i64) A19476 C19477 x19475 :: Ro.sl (Kd.int .i64) A19476 C19477 x19475 :: Ro.sl (Kd.int .u8) A6 C7 l5 :: rs) ∧ j38202 x38199 = some x19241) (by kernel_rfl) ?_ (fun a w hI => ?_)
                · refine EW.seq (x := Cd13.r.r.r.r.r.r.l.r.l.l.r.l.l.l.l) (y := Cd13.r.r.r.r.r.r.l.r.l.l.r.l.l.l.r) (by kernel_rfl) ?_
                  refine EW.region (id := 14) (ops := Cd13.r.r.r.r.r.r.l.r.l.l.r.l.l.l.l.ops) (by kernel_rfl) ?_
                  refine EL.quick 1 [1, 5, 7, 8, 9] [(1, .int .u8 a8), (5, .slice A19476 x19475.length C19477), (7, .pointer (some ⟨g19599, 0, none⟩)), (8, .int .i64 x33829), (9, .int .i64 0)] (by kernel_rfl) ?_
                  refine EL.done (by kernel_rfl) ?_
                  refine EQ.code ?_
                  refine EW.block (x := Cd13.r.r.r.r.r.r.l.r.l.l.r.l.l.l.r.l) (id := 4) (by kernel_rfl) ?_
                  refine EW.loop (x := Cd13.r.r.r.r.r.r.l.r.l.l.r.l.l.l.r.l.l) (fun n a w => ∃ x38287 : List (List S75), ∃ x38290 : Int, ∃ A38288 : Option Addr, ∃ C38289 : Nat, Sat 103 [(1, .int .u8 a8), (5, .slice A19476 x19475.length C19477), (7, .pointer (some ⟨g19599, 0, none⟩)), (8, .int .i64 x33829), (9, .int .i64 x38290)] a ∧ St B w (Ass.box 99 g19599 [.slice A38288 x38287.length C38289, .slice A19602 t19598.length C19603] :: Ass.deep 87 75 kS75 A38288 C38289 x38287 :: Ass.own 3 (Kd.int .i64) A19602 C19603 t19598 :: os) (Ro.sl (Kd.int .i64) A19476 C19477 x19475 :: Ro.sl (Kd.int .i64) A19476 C19477 x19475 :: Ro.sl (Kd.int .u8) A6 C7 l5 :: rs) ∧ confidantlaw13_FutureQuotas.l2 K a8 t19598 x33829 x19475 j38202 n x38287 x38290 = some x19241) K (by kernel_rfl) ?_ (fun n a w hI => ?_)
                  · refine EQ.keep [1, 5, 7, 8, 9] [(1, .int .u8 a8), (5, .slice A19476 x19475.length C19477), (7, .pointer (some ⟨g19599, 0, none⟩)), (8, .int .i64 x33829), (9, .int .i64 0)] (by kernel_rfl) ?_
                    exact fun a ha => ⟨x33826, 0, A33827, C33828, ha, (hS.re [2, 2, 2] [] rfl (sub_cons 0 rfl (sub_cons 0 rfl (sub_cons 2 rfl (sub_tail (sub_tail (sub_tail (sub_self)))))))), H⟩
                  · obtain ⟨x38287, x38290, A38288, C38289, ha, hS, H⟩ := hI
                    obtain _ | n := n
                    · simp [confidantlaw13_FutureQuotas.l2] at H
                    rw [confidantlaw13_FutureQuotas.l2.eq_2] at H
                    refine EW.at ?_ a ha
                    clear ha a
                    refine EW.seq (x := Cd13.r.r.r.r.r.r.l.r.l.l.r.l.l.l.r.l.l.l) (y := Cd13.r.r.r.r.r.r.l.r.l.l.r.l.l.l.r.l.l.r) (by kernel_rfl) ?_
                    refine EW.seq (x := Cd13.r.r.r.r.r.r.l.r.l.l.r.l.l.l.r.l.l.l.l) (y := Cd13.r.r.r.r.r.r.l.r.l.l.r.l.l.l.r.l.l.l.r) (by kernel_rfl) ?_
                    refine EW.region (id := 15) (ops := Cd13.r.r.r.r.r.r.l.r.l.l.r.l.l.l.r.l.l.l.l.ops) (by kernel_rfl) ?_
                    refine EL.quick 5 [1, 5, 7, 8, 9, 45] [(1, .int .u8 a8), (5, .slice A19476 x19475.length C19477), (7, .pointer (some ⟨g19599, 0, none⟩)), (8, .int .i64 x33829), (9, .int .i64 x38290), (45, .bool (decide (x38290 < (IntKind.i64.wrap (Int.tmod a8 8)))))] (by kernel_rfl) ?_
                    refine EL.done (by kernel_rfl) ?_
                    refine EQ.code ?_
                    refine EW.condP (o := (.tmp 45)) (x := Cd13.r.r.r.r.r.r.l.r.l.l.r.l.l.l.r.l.l.l.r.l) (y := Cd13.r.r.r.r.r.r.l.r.l.l.r.l.l.l.r.l.l.l.r.r) (x38290 < (IntKind.i64.wrap (Int.tmod a8 8))) (by kernel_rfl) (by kernel_rfl) (fun h38376 => ?_) (fun h38376 => ?_)
                    · rw [if_pos h38376] at H
                      refine EW.skip (by kernel_rfl) ?_
                      refine EQ.code ?_
                      refine EW.seq (x := Cd13.r.r.r.r.r.r.l.r.l.l.r.l.l.l.r.l.l.r.l) (y := Cd13.r.r.r.r.r.r.l.r.l.l.r.l.l.l.r.l.l.r.r) (by kernel_rfl) ?_
                      refine EW.block (x := Cd13.r.r.r.r.r.r.l.r.l.l.r.l.l.l.r.l.l.r.l.l) (id := 5) (by kernel_rfl) ?_
                      refine EW.seq (x := Cd13.r.r.r.r.r.r.l.r.l.l.r.l.l.l.r.l.l.r.l.l.l) (y := Cd13.r.r.r.r.r.r.l.r.l.l.r.l.l.l.r.l.l.r.l.l.r) (by kernel_rfl) ?_
                      refine EW.region (id := 17) (ops := Cd13.r.r.r.r.r.r.l.r.l.l.r.l.l.l.r.l.l.r.l.l.l.ops) (by kernel_rfl) ?_
                      refine EL.quick 2 [1, 5, 7, 8, 9, 49, 50] [(1, .int .u8 a8), (5, .slice A19476 x19475.length C19477), (7, .pointer (some ⟨g19599, 0, none⟩)), (8, .int .i64 x33829), (9, .int .i64 x38290), (49, .pointer (some ⟨g19599, 0, none⟩)), (50, .int .i64 x33829)] (by kernel_rfl) ?_
                      obtain ⟨t38420, t38421, t38422, hc38425, H⟩ := b3_out H
                      refine EL.of (EO.callD 46 [.pointer (some ⟨g19599, 0, none⟩), .int .i64 x33829, .int .i64 3] _ 51 (by kernel_rfl) (by kernel_rfl) (by kernel_rfl) (future_Futures_Make.calls hc38425 hS) ?_)
                      rintro v w ⟨A38423, C38424, rfl, hS⟩
                      refine EL.quick 5 [1, 5, 7, 8, 9, 10, 11] [(1, .int .u8 a8), (5, .slice A19476 x19475.length C19477), (7, .pointer (some ⟨g19599, 0, none⟩)), (8, .int .i64 x33829), (9, .int .i64 x38290), (10, .int .i32 t38421), (11, .bool (t38422))] (by kernel_rfl) ?_
                      refine EL.done (by kernel_rfl) ?_
                      refine EQ.code ?_
                      obtain ⟨j38442, hj38442, H⟩ := lt_out H
                      refine EW.cut (x := Cd13.r.r.r.r.r.r.l.r.l.l.r.l.l.l.r.l.l.r.l.l.r.l) (y := Cd13.r.r.r.r.r.r.l.r.l.l.r.l.l.l.r.l.l.r.l.l.r.r) (fun a w => ∃ x38441 : Bool, Sat 103 [(1, .int .u8 a8), (5, .slice A19476 x19475.length C19477), (7, .pointer (some ⟨g19599, 0, none⟩)), (8, .int .i64 x33829), (9, .int .i64 x38290), (78, .bool (x38441))] a ∧ St B w (Ass.box 99 g19599 [.slice A38423 t38420.length C38424, .slice A19602 t19598.length C19603] :: Ass.deep 87 75 kS75 A38423 C38424 t38420 :: Ass.own 3 (Kd.int .i64) A19602 C19603 t19598 :: os) (Ro.sl (Kd.int .i64) A19476 C19477 x19475 :: Ro.sl (Kd.int .i64) A19476 C19477 x19475 :: Ro.sl (Kd.int .u8) A6 C7 l5 :: rs) ∧ j38442 x38441 = some x19241) (by kernel_rfl) ?_ (fun a w hI => ?_)
                      · refine EW.region (id := 18) (ops := Cd13.r.r.r.r.r.r.l.r.l.l.r.l.l.l.r.l.l.r.l.l.r.l.ops) (by kernel_rfl) ?_
                        refine EL.quick 4 [1, 5, 7, 8, 9, 10, 11, 54, 57] [(1, .int .u8 a8), (5, .slice A19476 x19475.length C19477), (7, .pointer (some ⟨g19599, 0, none⟩)), (8, .int .i64 x33829), (9, .int .i64 x38290), (10, .int .i32 t38421), (11, .bool (t38422)), (54, .bool (t38422)), (57, .bool (decide (x33829 < 16)))] (by kernel_rfl) ?_
                        by_cases h38443 : x33829 < 16
                        · rw [if_pos h38443] at H
                          refine EL.keep [1, 5, 7, 8, 9, 10, 11, 54, 57] [(1, .int .u8 a8), (5, .slice A19476 x19475.length C19477), (7, .pointer (some ⟨g19599, 0, none⟩)), (8, .int .i64 x33829), (9, .int .i64 x38290), (10, .int .i32 t38421), (11, .bool (t38422)), (54, .bool (t38422)), (57, .bool (decide (x33829 < 16)))] (by kernel_rfl) ?_
                          refine EL.as' [(1, .int .u8 a8), (5, .slice A19476 x19475.length C19477), (7, .pointer (some ⟨g19599, 0, none⟩)), (8, .int .i64 x33829), (9, .int .i64 x38290), (10, .int .i32 t38421), (11, .bool (t38422)), (54, .bool (t38422)), (57, .bool (true))] (by simp only [dec_t h38443, Bool.not_true, Bool.not_false]) ?_
                          refine EL.quick 3 [1, 5, 7, 8, 9, 10, 11, 54, 57, 58, 59, 60] [(1, .int .u8 a8), (5, .slice A19476 x19475.length C19477), (7, .pointer (some ⟨g19599, 0, none⟩)), (8, .int .i64 x33829), (9, .int .i64 x38290), (10, .int .i32 t38421), (11, .bool (t38422)), (54, .bool (t38422)), (57, .bool (true)), (58, .int .i64 x38290), (59, .slice A19476 x19475.length C19477), (60, .int .i64 x33829)] (by kernel_rfl) ?_
                          obtain ⟨h38444, H⟩ := ite_in H
                          obtain ⟨ad38445, rfl⟩ := St.rd_some hS (Rd.ro 0 rfl) h38444 h36155
                          refine EL.of (EO.Y (YO.idx 24 1 ad38445 x19475.length C19477 .i64 x33829 61 (by kernel_rfl) (by kernel_rfl) (by kernel_rfl) (by kernel_rfl) h38444 h36155) ?_)
                          refine EL.of (EO.Y (YO.loadEl hS (Kd.int .i64) ad38445 C19477 x19475 (Rd.ro 0 rfl) 0 (encI .i64) encI_of x33829 h38444 h36155 3 1 0 1 rfl (.int .i64 (x19475.getD x33829.toNat 0)) 62 (by kernel_rfl) (by kernel_rfl) (by kernel_rfl) (by kernel_rfl)) ?_)
                          refine EL.quick 5 [1, 5, 7, 8, 9, 10, 11, 58, 59, 60, 61, 62, 63, 64, 67] [(1, .int .u8 a8), (5, .slice (some ad38445) x19475.length C19477), (7, .pointer (some ⟨g19599, 0, none⟩)), (8, .int .i64 x33829), (9, .int .i64 x38290), (10, .int .i32 t38421), (11, .bool (t38422)), (58, .int .i64 x38290), (59, .slice (some ad38445) x19475.length C19477), (60, .int .i64 x33829), (61, .pointer (some ((ad38445.add (x33829.toNat * 1)).add 0))), (62, .int .i64 (x19475.getD x33829.toNat 0)), (63, .int .i64 (mx (x19475.getD x33829.toNat 0) 0)), (64, .bool (decide (x38290 < (mx (x19475.getD x33829.toNat 0) 0)))), (67, .bool (!((t38422 == (decide (x38290 < (mx (x19475.getD x33829.toNat 0) 0)))))))] (by kernel_rfl) ?_
                          by_cases h38446 : (t38422 == (decide (x38290 < (mx (x19475.getD x33829.toNat 0) 0)))) = true
                          · rw [if_pos h38446] at H
                            refine EL.keep [1, 5, 7, 8, 9, 10, 11, 58, 59, 60, 61, 62, 63, 64, 67] [(1, .int .u8 a8), (5, .slice (some ad38445) x19475.length C19477), (7, .pointer (some ⟨g19599, 0, none⟩)), (8, .int .i64 x33829), (9, .int .i64 x38290), (10, .int .i32 t38421), (11, .bool (t38422)), (58, .int .i64 x38290), (59, .slice (some ad38445) x19475.length C19477), (60, .int .i64 x33829), (61, .pointer (some ((ad38445.add (x33829.toNat * 1)).add 0))), (62, .int .i64 (x19475.getD x33829.toNat 0)), (63, .int .i64 (mx (x19475.getD x33829.toNat 0) 0)), (64, .bool (decide (x38290 < (mx (x19475.getD x33829.toNat 0) 0)))), (67, .bool (!((t38422 == (decide (x38290 < (mx (x19475.getD x33829.toNat 0) 0)))))))] (by kernel_rfl) ?_
                            refine EL.as' [(1, .int .u8 a8), (5, .slice (some ad38445) x19475.length C19477), (7, .pointer (some ⟨g19599, 0, none⟩)), (8, .int .i64 x33829), (9, .int .i64 x38290), (10, .int .i32 t38421), (11, .bool (t38422)), (58, .int .i64 x38290), (59, .slice (some ad38445) x19475.length C19477), (60, .int .i64 x33829), (61, .pointer (some ((ad38445.add (x33829.toNat * 1)).add 0))), (62, .int .i64 (x19475.getD x33829.toNat 0)), (63, .int .i64 (mx (x19475.getD x33829.toNat 0) 0)), (64, .bool (decide (x38290 < (mx (x19475.getD x33829.toNat 0) 0)))), (67, .bool (false))] (by simp only [h38446, Bool.not_true, Bool.not_false]) ?_
                            refine EL.quick 2 [1, 5, 7, 8, 9, 10, 58, 59, 60, 61, 62, 63, 64, 67, 68, 69] [(1, .int .u8 a8), (5, .slice (some ad38445) x19475.length C19477), (7, .pointer (some ⟨g19599, 0, none⟩)), (8, .int .i64 x33829), (9, .int .i64 x38290), (10, .int .i32 t38421), (58, .int .i64 x38290), (59, .slice (some ad38445) x19475.length C19477), (60, .int .i64 x33829), (61, .pointer (some ((ad38445.add (x33829.toNat * 1)).add 0))), (62, .int .i64 (x19475.getD x33829.toNat 0)), (63, .int .i64 (mx (x19475.getD x33829.toNat 0) 0)), (64, .bool (decide (x38290 < (mx (x19475.getD x33829.toNat 0) 0)))), (67, .bool (false)), (68, .bool (t38422)), (69, .bool (t38422))] (by kernel_rfl) ?_
                            by_cases h38447 : t38422 = true
                            · rw [if_pos h38447] at H
                              refine EL.keep [1, 5, 7, 8, 9, 10, 58, 59, 60, 61, 62, 63, 64, 67, 68, 69] [(1, .int .u8 a8), (5, .slice (some ad38445) x19475.length C19477), (7, .pointer (some ⟨g19599, 0, none⟩)), (8, .int .i64 x33829), (9, .int .i64 x38290), (10, .int .i32 t38421), (58, .int .i64 x38290), (59, .slice (some ad38445) x19475.length C19477), (60, .int .i64 x33829), (61, .pointer (some ((ad38445.add (x33829.toNat * 1)).add 0))), (62, .int .i64 (x19475.getD x33829.toNat 0)), (63, .int .i64 (mx (x19475.getD x33829.toNat 0) 0)), (64, .bool (decide (x38290 < (mx (x19475.getD x33829.toNat 0) 0)))), (67, .bool (false)), (68, .bool (t38422)), (69, .bool (t38422))] (by kernel_rfl) ?_
                              refine EL.as' [(1, .int .u8 a8), (5, .slice (some ad38445) x19475.length C19477), (7, .pointer (some ⟨g19599, 0, none⟩)), (8, .int .i64 x33829), (9, .int .i64 x38290), (10, .int .i32 t38421), (58, .int .i64 x38290), (59, .slice (some ad38445) x19475.length C19477), (60, .int .i64 x33829), (61, .pointer (some ((ad38445.add (x33829.toNat * 1)).add 0))), (62, .int .i64 (x19475.getD x33829.toNat 0)), (63, .int .i64 (mx (x19475.getD x33829.toNat 0) 0)), (64, .bool (decide (x38290 < (mx (x19475.getD x33829.toNat 0) 0)))), (67, .bool (false)), (68, .bool (true)), (69, .bool (true))] (by simp only [h38447, Bool.not_true, Bool.not_false]) ?_
                              refine EL.quick 9 [1, 5, 7, 8, 9, 58, 59, 60, 61, 62, 63, 64, 68, 69, 70, 71, 72, 73, 74, 75, 76, 77, 78] [(1, .int .u8 a8), (5, .slice (some ad38445) x19475.length C19477), (7, .pointer (some ⟨g19599, 0, none⟩)), (8, .int .i64 x33829), (9, .int .i64 x38290), (58, .int .i64 x38290), (59, .slice (some ad38445) x19475.length C19477), (60, .int .i64 x33829), (61, .pointer (some ((ad38445.add (x33829.toNat * 1)).add 0))), (62, .int .i64 (x19475.getD x33829.toNat 0)), (63, .int .i64 (mx (x19475.getD x33829.toNat 0) 0)), (64, .bool (decide (x38290 < (mx (x19475.getD x33829.toNat 0) 0)))), (68, .bool (true)), (69, .bool (true)), (70, .int .i32 t38421), (71, .int .i64 (IntKind.i64.wrap t38421)), (72, .int .i64 x33829), (73, .int .i64 (IntKind.i64.wrap (x33829 * 65536))), (74, .int .i64 x38290), (75, .int .i64 (IntKind.i64.wrap ((IntKind.i64.wrap (x33829 * 65536)) + x38290))), (76, .bool (!(decide ((IntKind.i64.wrap t38421) = (IntKind.i64.wrap ((IntKind.i64.wrap (x33829 * 65536)) + x38290)))))), (77, .bool (!(decide ((IntKind.i64.wrap t38421) = (IntKind.i64.wrap ((IntKind.i64.wrap (x33829 * 65536)) + x38290)))))), (78, .bool (!(decide ((IntKind.i64.wrap t38421) = (IntKind.i64.wrap ((IntKind.i64.wrap (x33829 * 65536)) + x38290))))))] (by kernel_rfl) ?_
                              refine EL.done (by kernel_rfl) ?_
                              refine EQ.to ?_
                              refine EQ.keep [1, 5, 7, 8, 9, 78] [(1, .int .u8 a8), (5, .slice (some ad38445) x19475.length C19477), (7, .pointer (some ⟨g19599, 0, none⟩)), (8, .int .i64 x33829), (9, .int .i64 x38290), (78, .bool (!(decide ((IntKind.i64.wrap t38421) = (IntKind.i64.wrap ((IntKind.i64.wrap (x33829 * 65536)) + x38290))))))] (by kernel_rfl) ?_
                              exact fun a ha => ⟨!(decide ((IntKind.i64.wrap t38421) = (IntKind.i64.wrap ((IntKind.i64.wrap (x33829 * 65536)) + x38290)))), ha, (hS.re [2, 2, 2] [] rfl (sub_cons 0 rfl (sub_cons 0 rfl (sub_cons 2 rfl (sub_tail (sub_tail (sub_tail (sub_self)))))))), H⟩
                            · rw [if_neg h38447] at H
                              refine EL.keep [1, 5, 7, 8, 9, 10, 58, 59, 60, 61, 62, 63, 64, 67, 68, 69] [(1, .int .u8 a8), (5, .slice (some ad38445) x19475.length C19477), (7, .pointer (some ⟨g19599, 0, none⟩)), (8, .int .i64 x33829), (9, .int .i64 x38290), (10, .int .i32 t38421), (58, .int .i64 x38290), (59, .slice (some ad38445) x19475.length C19477), (60, .int .i64 x33829), (61, .pointer (some ((ad38445.add (x33829.toNat * 1)).add 0))), (62, .int .i64 (x19475.getD x33829.toNat 0)), (63, .int .i64 (mx (x19475.getD x33829.toNat 0) 0)), (64, .bool (decide (x38290 < (mx (x19475.getD x33829.toNat 0) 0)))), (67, .bool (false)), (68, .bool (t38422)), (69, .bool (t38422))] (by kernel_rfl) ?_
                              refine EL.as' [(1, .int .u8 a8), (5, .slice (some ad38445) x19475.length C19477), (7, .pointer (some ⟨g19599, 0, none⟩)), (8, .int .i64 x33829), (9, .int .i64 x38290), (10, .int .i32 t38421), (58, .int .i64 x38290), (59, .slice (some ad38445) x19475.length C19477), (60, .int .i64 x33829), (61, .pointer (some ((ad38445.add (x33829.toNat * 1)).add 0))), (62, .int .i64 (x19475.getD x33829.toNat 0)), (63, .int .i64 (mx (x19475.getD x33829.toNat 0) 0)), (64, .bool (decide (x38290 < (mx (x19475.getD x33829.toNat 0) 0)))), (67, .bool (false)), (68, .bool (false)), (69, .bool (false))] (by simp only [(Bool.eq_false_iff.2 h38447), Bool.not_true, Bool.not_false]) ?_
                              refine EL.quick 9 [1, 5, 7, 8, 9, 58, 59, 60, 61, 62, 63, 64, 68, 69, 77, 78] [(1, .int .u8 a8), (5, .slice (some ad38445) x19475.length C19477), (7, .pointer (some ⟨g19599, 0, none⟩)), (8, .int .i64 x33829), (9, .int .i64 x38290), (58, .int .i64 x38290), (59, .slice (some ad38445) x19475.length C19477), (60, .int .i64 x33829), (61, .pointer (some ((ad38445.add (x33829.toNat * 1)).add 0))), (62, .int .i64 (x19475.getD x33829.toNat 0)), (63, .int .i64 (mx (x19475.getD x33829.toNat 0) 0)), (64, .bool (decide (x38290 < (mx (x19475.getD x33829.toNat 0) 0)))), (68, .bool (false)), (69, .bool (false)), (77, .bool (false)), (78, .bool (false))] (by kernel_rfl) ?_
                              refine EL.done (by kernel_rfl) ?_
                              refine EQ.to ?_
                              refine EQ.keep [1, 5, 7, 8, 9, 78] [(1, .int .u8 a8), (5, .slice (some ad38445) x19475.length C19477), (7, .pointer (some ⟨g19599, 0, none⟩)), (8, .int .i64 x33829), (9, .int .i64 x38290), (78, .bool (false))] (by kernel_rfl) ?_
                              exact fun a ha => ⟨false, ha, (hS.re [2, 2, 2] [] rfl (sub_cons 0 rfl (sub_cons 0 rfl (sub_cons 2 rfl (sub_tail (sub_tail (sub_tail (sub_self)))))))), H⟩
                          · rw [if_neg h38446] at H
                            refine EL.keep [1, 5, 7, 8, 9, 10, 11, 58, 59, 60, 61, 62, 63, 64, 67] [(1, .int .u8 a8), (5, .slice (some ad38445) x19475.length C19477), (7, .pointer (some ⟨g19599, 0, none⟩)), (8, .int .i64 x33829), (9, .int .i64 x38290), (10, .int .i32 t38421), (11, .bool (t38422)), (58, .int .i64 x38290), (59, .slice (some ad38445) x19475.length C19477), (60, .int .i64 x33829), (61, .pointer (some ((ad38445.add (x33829.toNat * 1)).add 0))), (62, .int .i64 (x19475.getD x33829.toNat 0)), (63, .int .i64 (mx (x19475.getD x33829.toNat 0) 0)), (64, .bool (decide (x38290 < (mx (x19475.getD x33829.toNat 0) 0)))), (67, .bool (!((t38422 == (decide (x38290 < (mx (x19475.getD x33829.toNat 0) 0)))))))] (by kernel_rfl) ?_
                            refine EL.as' [(1, .int .u8 a8), (5, .slice (some ad38445) x19475.length C19477), (7, .pointer (some ⟨g19599, 0, none⟩)), (8, .int .i64 x33829), (9, .int .i64 x38290), (10, .int .i32 t38421), (11, .bool (t38422)), (58, .int .i64 x38290), (59, .slice (some ad38445) x19475.length C19477), (60, .int .i64 x33829), (61, .pointer (some ((ad38445.add (x33829.toNat * 1)).add 0))), (62, .int .i64 (x19475.getD x33829.toNat 0)), (63, .int .i64 (mx (x19475.getD x33829.toNat 0) 0)), (64, .bool (decide (x38290 < (mx (x19475.getD x33829.toNat 0) 0)))), (67, .bool (true))] (by simp only [(Bool.eq_false_iff.2 h38446), Bool.not_true, Bool.not_false]) ?_
                            refine EL.quick 11 [1, 5, 7, 8, 9, 58, 59, 60, 61, 62, 63, 64, 78] [(1, .int .u8 a8), (5, .slice (some ad38445) x19475.length C19477), (7, .pointer (some ⟨g19599, 0, none⟩)), (8, .int .i64 x33829), (9, .int .i64 x38290), (58, .int .i64 x38290), (59, .slice (some ad38445) x19475.length C19477), (60, .int .i64 x33829), (61, .pointer (some ((ad38445.add (x33829.toNat * 1)).add 0))), (62, .int .i64 (x19475.getD x33829.toNat 0)), (63, .int .i64 (mx (x19475.getD x33829.toNat 0) 0)), (64, .bool (decide (x38290 < (mx (x19475.getD x33829.toNat 0) 0)))), (78, .bool (true))] (by kernel_rfl) ?_
                            refine EL.done (by kernel_rfl) ?_
                            refine EQ.to ?_
                            refine EQ.keep [1, 5, 7, 8, 9, 78] [(1, .int .u8 a8), (5, .slice (some ad38445) x19475.length C19477), (7, .pointer (some ⟨g19599, 0, none⟩)), (8, .int .i64 x33829), (9, .int .i64 x38290), (78, .bool (true))] (by kernel_rfl) ?_
                            exact fun a ha => ⟨true, ha, (hS.re [2, 2, 2] [] rfl (sub_cons 0 rfl (sub_cons 0 rfl (sub_cons 2 rfl (sub_tail (sub_tail (sub_tail (sub_self)))))))), H⟩
                        · rw [if_neg h38443] at H
                          refine EL.keep [1, 5, 7, 8, 9, 10, 11, 54, 57] [(1, .int .u8 a8), (5, .slice A19476 x19475.length C19477), (7, .pointer (some ⟨g19599, 0, none⟩)), (8, .int .i64 x33829), (9, .int .i64 x38290), (10, .int .i32 t38421), (11, .bool (t38422)), (54, .bool (t38422)), (57, .bool (decide (x33829 < 16)))] (by kernel_rfl) ?_
                          refine EL.as' [(1, .int .u8 a8), (5, .slice A19476 x19475.length C19477), (7, .pointer (some ⟨g19599, 0, none⟩)), (8, .int .i64 x33829), (9, .int .i64 x38290), (10, .int .i32 t38421), (11, .bool (t38422)), (54, .bool (t38422)), (57, .bool (false))] (by simp only [dec_f h38443, Bool.not_true, Bool.not_false]) ?_
                          refine EL.quick 10 [1, 5, 7, 8, 9, 10, 11, 67] [(1, .int .u8 a8), (5, .slice A19476 x19475.length C19477), (7, .pointer (some ⟨g19599, 0, none⟩)), (8, .int .i64 x33829), (9, .int .i64 x38290), (10, .int .i32 t38421), (11, .bool (t38422)), (67, .bool (!((t38422 == false))))] (by kernel_rfl) ?_
                          by_cases h38448 : (t38422 == false) = true
                          · rw [if_pos h38448] at H
                            refine EL.keep [1, 5, 7, 8, 9, 10, 11, 67] [(1, .int .u8 a8), (5, .slice A19476 x19475.length C19477), (7, .pointer (some ⟨g19599, 0, none⟩)), (8, .int .i64 x33829), (9, .int .i64 x38290), (10, .int .i32 t38421), (11, .bool (t38422)), (67, .bool (!((t38422 == false))))] (by kernel_rfl) ?_
                            refine EL.as' [(1, .int .u8 a8), (5, .slice A19476 x19475.length C19477), (7, .pointer (some ⟨g19599, 0, none⟩)), (8, .int .i64 x33829), (9, .int .i64 x38290), (10, .int .i32 t38421), (11, .bool (t38422)), (67, .bool (false))] (by simp only [h38448, Bool.not_true, Bool.not_false]) ?_
                            refine EL.quick 2 [1, 5, 7, 8, 9, 10, 67, 68, 69] [(1, .int .u8 a8), (5, .slice A19476 x19475.length C19477), (7, .pointer (some ⟨g19599, 0, none⟩)), (8, .int .i64 x33829), (9, .int .i64 x38290), (10, .int .i32 t38421), (67, .bool (false)), (68, .bool (t38422)), (69, .bool (t38422))] (by kernel_rfl) ?_
                            by_cases h38449 : t38422 = true
                            · rw [if_pos h38449] at H
                              refine EL.keep [1, 5, 7, 8, 9, 10, 67, 68, 69] [(1, .int .u8 a8), (5, .slice A19476 x19475.length C19477), (7, .pointer (some ⟨g19599, 0, none⟩)), (8, .int .i64 x33829), (9, .int .i64 x38290), (10, .int .i32 t38421), (67, .bool (false)), (68, .bool (t38422)), (69, .bool (t38422))] (by kernel_rfl) ?_
                              refine EL.as' [(1, .int .u8 a8), (5, .slice A19476 x19475.length C19477), (7, .pointer (some ⟨g19599, 0, none⟩)), (8, .int .i64 x33829), (9, .int .i64 x38290), (10, .int .i32 t38421), (67, .bool (false)), (68, .bool (true)), (69, .bool (true))] (by simp only [h38449, Bool.not_true, Bool.not_false]) ?_
                              refine EL.quick 9 [1, 5, 7, 8, 9, 68, 69, 70, 71, 72, 73, 74, 75, 76, 77, 78] [(1, .int .u8 a8), (5, .slice A19476 x19475.length C19477), (7, .pointer (some ⟨g19599, 0, none⟩)), (8, .int .i64 x33829), (9, .int .i64 x38290), (68, .bool (true)), (69, .bool (true)), (70, .int .i32 t38421), (71, .int .i64 (IntKind.i64.wrap t38421)), (72, .int .i64 x33829), (73, .int .i64 (IntKind.i64.wrap (x33829 * 65536))), (74, .int .i64 x38290), (75, .int .i64 (IntKind.i64.wrap ((IntKind.i64.wrap (x33829 * 65536)) + x38290))), (76, .bool (!(decide ((IntKind.i64.wrap t38421) = (IntKind.i64.wrap ((IntKind.i64.wrap (x33829 * 65536)) + x38290)))))), (77, .bool (!(decide ((IntKind.i64.wrap t38421) = (IntKind.i64.wrap ((IntKind.i64.wrap (x33829 * 65536)) + x38290)))))), (78, .bool (!(decide ((IntKind.i64.wrap t38421) = (IntKind.i64.wrap ((IntKind.i64.wrap (x33829 * 65536)) + x38290))))))] (by kernel_rfl) ?_
                              refine EL.done (by kernel_rfl) ?_
                              refine EQ.to ?_
                              refine EQ.keep [1, 5, 7, 8, 9, 78] [(1, .int .u8 a8), (5, .slice A19476 x19475.length C19477), (7, .pointer (some ⟨g19599, 0, none⟩)), (8, .int .i64 x33829), (9, .int .i64 x38290), (78, .bool (!(decide ((IntKind.i64.wrap t38421) = (IntKind.i64.wrap ((IntKind.i64.wrap (x33829 * 65536)) + x38290))))))] (by kernel_rfl) ?_
                              exact fun a ha => ⟨!(decide ((IntKind.i64.wrap t38421) = (IntKind.i64.wrap ((IntKind.i64.wrap (x33829 * 65536)) + x38290)))), ha, (hS.re [2, 2, 2] [] rfl (sub_cons 0 rfl (sub_cons 0 rfl (sub_cons 2 rfl (sub_tail (sub_tail (sub_tail (sub_self)))))))), H⟩
                            · rw [if_neg h38449] at H
                              refine EL.keep [1, 5, 7, 8, 9, 10, 67, 68, 69] [(1, .int .u8 a8), (5, .slice A19476 x19475.length C19477), (7, .pointer (some ⟨g19599, 0, none⟩)), (8, .int .i64 x33829), (9, .int .i64 x38290), (10, .int .i32 t38421), (67, .bool (false)), (68, .bool (t38422)), (69, .bool (t38422))] (by kernel_rfl) ?_
                              refine EL.as' [(1, .int .u8 a8), (5, .slice A19476 x19475.length C19477), (7, .pointer (some ⟨g19599, 0, none⟩)), (8, .int .i64 x33829), (9, .int .i64 x38290), (10, .int .i32 t38421), (67, .bool (false)), (68, .bool (false)), (69, .bool (false))] (by simp only [(Bool.eq_false_iff.2 h38449), Bool.not_true, Bool.not_false]) ?_
                              refine EL.quick 9 [1, 5, 7, 8, 9, 68, 69, 77, 78] [(1, .int .u8 a8), (5, .slice A19476 x19475.length C19477), (7, .pointer (some ⟨g19599, 0, none⟩)), (8, .int .i64 x33829), (9, .int .i64 x38290), (68, .bool (false)), (69, .bool (false)), (77, .bool (false)), (78, .bool (false))] (by kernel_rfl) ?_
                              refine EL.done (by kernel_rfl) ?_
                              refine EQ.to ?_
                              refine EQ.keep [1, 5, 7, 8, 9, 78] [(1, .int .u8 a8), (5, .slice A19476 x19475.length C19477), (7, .pointer (some ⟨g19599, 0, none⟩)), (8, .int .i64 x33829), (9, .int .i64 x38290), (78, .bool (false))] (by kernel_rfl) ?_
                              exact fun a ha => ⟨false, ha, (hS.re [2, 2, 2] [] rfl (sub_cons 0 rfl (sub_cons 0 rfl (sub_cons 2 rfl (sub_tail (sub_tail (sub_tail (sub_self)))))))), H⟩
                          · rw [if_neg h38448] at H
                            refine EL.keep [1, 5, 7, 8, 9, 10, 11, 67] [(1, .int .u8 a8), (5, .slice A19476 x19475.length C19477), (7, .pointer (some ⟨g19599, 0, none⟩)), (8, .int .i64 x33829), (9, .int .i64 x38290), (10, .int .i32 t38421), (11, .bool (t38422)), (67, .bool (!((t38422 == false))))] (by kernel_rfl) ?_
                            refine EL.as' [(1, .int .u8 a8), (5, .slice A19476 x19475.length C19477), (7, .pointer (some ⟨g19599, 0, none⟩)), (8, .int .i64 x33829), (9, .int .i64 x38290), (10, .int .i32 t38421), (11, .bool (t38422)), (67, .bool (true))] (by simp only [(Bool.eq_false_iff.2 h38448), Bool.not_true, Bool.not_false]) ?_
                            refine EL.quick 11 [1, 5, 7, 8, 9, 78] [(1, .int .u8 a8), (5, .slice A19476 x19475.length C19477), (7, .pointer (some ⟨g19599, 0, none⟩)), (8, .int .i64 x33829), (9, .int .i64 x38290), (78, .bool (true))] (by kernel_rfl) ?_
                            refine EL.done (by kernel_rfl) ?_
                            refine EQ.to ?_
                            refine EQ.keep [1, 5, 7, 8, 9, 78] [(1, .int .u8 a8), (5, .slice A19476 x19475.length C19477), (7, .pointer (some ⟨g19599, 0, none⟩)), (8, .int .i64 x33829), (9, .int .i64 x38290), (78, .bool (true))] (by kernel_rfl) ?_
                            exact fun a ha => ⟨true, ha, (hS.re [2, 2, 2] [] rfl (sub_cons 0 rfl (sub_cons 0 rfl (sub_cons 2 rfl (sub_tail (sub_tail (sub_tail (sub_self)))))))), H⟩
                      · obtain ⟨x38441, ha, hS, H⟩ := hI
                        rw [hj38442] at H
                        (try dsimp only at H)
                        refine EW.at ?_ a ha
                        clear ha a
                        refine EW.condP' (o := (.tmp 78)) (x := Cd13.r.r.r.r.r.r.l.r.l.l.r.l.l.l.r.l.l.r.l.l.r.r.l) (y := Cd13.r.r.r.r.r.r.l.r.l.l.r.l.l.l.r.l.l.r.l.l.r.r.r) (x38441) (by kernel_rfl) (by kernel_rfl) (fun h38450 => ?_) (fun h38450 => ?_)
                        · rw [if_pos h38450] at H
                          refine EW.seq (x := Cd13.r.r.r.r.r.r.l.r.l.l.r.l.l.l.r.l.l.r.l.l.r.r.l.l) (y := Cd13.r.r.r.r.r.r.l.r.l.l.r.l.l.l.r.l.l.r.l.l.r.r.l.r) (by kernel_rfl) ?_
                          refine EW.region (id := 19) (ops := Cd13.r.r.r.r.r.r.l.r.l.l.r.l.l.l.r.l.l.r.l.l.r.r.l.l.ops) (by kernel_rfl) ?_
                          refine EL.quick 1 [4] [(4, .bool (false))] (by kernel_rfl) ?_
                          refine EL.done (by kernel_rfl) ?_
                          refine EQ.code ?_
                          refine EW.ret (by kernel_rfl) ?_
                          refine EQ.ret ?_
                          refine EQ.ret ?_
                          refine EQ.ret ?_
                          refine EQ.ret ?_
                          refine EQ.ret ?_
                          refine EQ.ret ?_
                          refine EQ.ret ?_
                          refine EQ.ret ?_
                          refine EQ.ret ?_
                          refine EQ.ret ?_
                          obtain rfl := Option.some.inj H
                          exact EQ.leave (.bool (false)) (by kernel_rfl) ⟨_, rfl, rfl, (hS.re [] [0, 0, 0] rfl (sub_tail (sub_tail (sub_self))))⟩
                        · rw [if_neg h38450] at H
                          refine EW.skip (by kernel_rfl) ?_
                          refine EQ.pop ?_
                          refine EQ.code ?_
                          refine EW.region (id := 16) (ops := Cd13.r.r.r.r.r.r.l.r.l.l.r.l.l.l.r.l.l.r.r.ops) (by kernel_rfl) ?_
                          refine EL.quick 3 [1, 5, 7, 8, 9] [(1, .int .u8 a8), (5, .slice A19476 x19475.length C19477), (7, .pointer (some ⟨g19599, 0, none⟩)), (8, .int .i64 x33829), (9, .int .i64 (IntKind.i64.wrap (x38290 + 1)))] (by kernel_rfl) ?_
                          refine EL.done (by kernel_rfl) ?_
                          refine EQ.to ?_
                          refine EQ.keep [1, 5, 7, 8, 9] [(1, .int .u8 a8), (5, .slice A19476 x19475.length C19477), (7, .pointer (some ⟨g19599, 0, none⟩)), (8, .int .i64 x33829), (9, .int .i64 (IntKind.i64.wrap (x38290 + 1)))] (by kernel_rfl) ?_
                          exact fun a ha => ⟨n, Nat.lt_succ_self n, t38420, IntKind.i64.wrap (x38290 + 1), A38423, C38424, ha, (hS.re [2, 2, 2] [] rfl (sub_cons 0 rfl (sub_cons 0 rfl (sub_cons 2 rfl (sub_tail (sub_tail (sub_tail (sub_self)))))))), H⟩
                    · rw [if_neg h38376] at H
                      refine EW.exit (id := 4) (by kernel_rfl) ?_
                      refine EQ.exitCode ?_
                      refine EQ.exitTo ?_
                      refine EQ.exitHere ?_
                      refine EQ.to ?_
                      refine EQ.keep [1, 5, 7, 8] [(1, .int .u8 a8), (5, .slice A19476 x19475.length C19477), (7, .pointer (some ⟨g19599, 0, none⟩)), (8, .int .i64 x33829)] (by kernel_rfl) ?_
                      exact fun a ha => ⟨x38287, A38288, C38289, ha, (hS.re [2, 2, 2] [] rfl (sub_cons 0 rfl (sub_cons 0 rfl (sub_cons 2 rfl (sub_tail (sub_tail (sub_tail (sub_self)))))))), H⟩
                · obtain ⟨x38199, A38200, C38201, ha, hS, H⟩ := hI
                  rw [hj38202] at H
                  (try dsimp only at H)
                  refine EW.at ?_ a ha
                  clear ha a
                  obtain ⟨j38463, hj38463, H⟩ := lt_out H
                  refine EW.cut (x := Cd13.r.r.r.r.r.r.l.r.l.l.r.l.l.r.l) (y := Cd13.r.r.r.r.r.r.l.r.l.l.r.l.l.r.r) (fun a w => ∃ x38462 : Bool, Sat 103 [(1, .int .u8 a8), (5, .slice A19476 x19475.length C19477), (7, .pointer (some ⟨g19599, 0, none⟩)), (8, .int .i64 x33829), (95, .bool (x38462))] a ∧ St B w (Ass.box 99 g19599 [.slice A38200 x38199.length C38201, .slice A19602 t19598.length C19603] :: Ass.deep 87 75 kS75 A38200 C38201 x38199 :: Ass.own 3 (Kd.int .i64) A19602 C19603 t19598 :: os) (Ro.sl (Kd.int .i64) A19476 C19477 x19475 :: Ro.sl (Kd.int .i64) A19476 C19477 x19475 :: Ro.sl (Kd.int .u8) A6 C7 l5 :: rs) ∧ j38463 x38462 = some x19241) (by kernel_rfl) ?_ (fun a w hI => ?_)
                  · by_cases h38464 : x33829 < 16
                    · rw [if_pos h38464] at H
                      obtain ⟨t38465, hc38466, H⟩ := b1_out H
                      obtain ⟨h38467, H⟩ := ite_in H
                      obtain ⟨ad38468, rfl⟩ := St.rd_some hS (Rd.ro 0 rfl) h38467 h36155
                      have hS := hS.drew
                      refine EW.draw (B := B) (id := 20) (ops := Cd13.r.r.r.r.r.r.l.r.l.l.r.l.l.r.l.ops) [Ass.box 99 g19599 [.slice A38200 x38199.length C38201, .slice A19602 t19598.length C19603], Ass.deep 87 75 kS75 A38200 C38201 x38199, Ass.own 3 (Kd.int .i64) A19602 C19603 t19598] [Ro.sl (Kd.int .i64) (some ad38468) C19477 x19475, Ro.sl (Kd.int .i64) (some ad38468) C19477 x19475, Ro.sl (Kd.int .u8) A6 C7 l5] (by kernel_rfl) (by kernel_rfl) ?_
                      have hN : Region.noSelect Cd13.r.r.r.r.r.r.l.r.l.l.r.l.l.r.l.ops = true := (by kernel_rfl)
                      have hF : freeAll Cd13.r.r.r.r.r.r.l.r.l.l.r.l.l.r.l.ops = true := (by kernel_rfl)
                      have hC : Core B [Ass.box 99 g19599 [.slice A38200 x38199.length C38201, .slice A19602 t19598.length C19603], Ass.deep 87 75 kS75 A38200 C38201 x38199, Ass.own 3 (Kd.int .i64) A19602 C19603 t19598] [Ro.sl (Kd.int .i64) (some ad38468) C19477 x19475, Ro.sl (Kd.int .i64) (some ad38468) C19477 x19475, Ro.sl (Kd.int .u8) A6 C7 l5] _ := ⟨_, _, hS⟩
                      refine ED.quick hN hF hC [0, 1, 2] [1, 5, 7, 8, 81] 14 [(1, .int .u8 a8), (5, .slice (some ad38468) x19475.length C19477), (7, .pointer (some ⟨g19599, 0, none⟩)), (8, .int .i64 x33829), (81, .bool (decide (x33829 < 16)))] #[true, true, true, false, false, false, false, false, false, false, false, false, false, false, false, false, false] (by kernel_rfl) (by kernel_rfl) ?_
                      refine ED.keep [1, 5, 7, 8, 81] [(1, .int .u8 a8), (5, .slice (some ad38468) x19475.length C19477), (7, .pointer (some ⟨g19599, 0, none⟩)), (8, .int .i64 x33829), (81, .bool (decide (x33829 < 16)))] (by kernel_rfl) ?_
                      refine ED.as' [(1, .int .u8 a8), (5, .slice (some ad38468) x19475.length C19477), (7, .pointer (some ⟨g19599, 0, none⟩)), (8, .int .i64 x33829), (81, .bool (true))] (by simp only [dec_t h38464, Bool.not_true, Bool.not_false]) ?_
                      refine ED.quick hN hF hC [3, 4, 6, 7, 8, 9, 10] [1, 5, 7, 8, 81, 82, 83, 85, 86, 87, 88, 89] 7 [(1, .int .u8 a8), (5, .slice (some ad38468) x19475.length C19477), (7, .pointer (some ⟨g19599, 0, none⟩)), (8, .int .i64 x33829), (81, .bool (true)), (82, .pointer (some ⟨g19599, 0, none⟩)), (83, .int .i64 x33829), (85, .int .u8 a8), (86, .int .u8 (Int.tmod a8 8)), (87, .int .i64 (IntKind.i64.wrap (Int.tmod a8 8))), (88, .slice (some ad38468) x19475.length C19477), (89, .int .i64 x33829)] #[true, true, true, true, true, false, true, true, true, true, true, false, false, false, false, false, false] (by kernel_rfl) (by kernel_rfl) ?_
                      refine ED.Y hN hF hC 11 6 #[true, true, true, true, true, false, true, true, true, true, true, true, false, false, false, false, false] (by kernel_rfl) (by kernel_rfl) rfl (fun _ _ _ hS => YO.idx 24 1 ad38468 x19475.length C19477 .i64 x33829 90 (by kernel_rfl) (by kernel_rfl) (by kernel_rfl) (by kernel_rfl) h38467 h36155) ?_
                      refine ED.Y hN hF hC 12 5 #[true, true, true, true, true, false, true, true, true, true, true, true, true, false, false, false, false] (by kernel_rfl) (by kernel_rfl) rfl (fun _ _ _ hS => YO.loadEl hS (Kd.int .i64) ad38468 C19477 x19475 (Rd.ro 0 rfl) 0 (encI .i64) encI_of x33829 h38467 h36155 3 1 0 1 rfl (.int .i64 (x19475.getD x33829.toNat 0)) 91 (by kernel_rfl) (by kernel_rfl) (by kernel_rfl) (by kernel_rfl)) ?_
                      refine ED.quick hN hF hC [13, 14] [1, 5, 7, 8, 81, 82, 83, 85, 86, 87, 88, 89, 90, 91, 92, 93] 3 [(1, .int .u8 a8), (5, .slice (some ad38468) x19475.length C19477), (7, .pointer (some ⟨g19599, 0, none⟩)), (8, .int .i64 x33829), (81, .bool (true)), (82, .pointer (some ⟨g19599, 0, none⟩)), (83, .int .i64 x33829), (85, .int .u8 a8), (86, .int .u8 (Int.tmod a8 8)), (87, .int .i64 (IntKind.i64.wrap (Int.tmod a8 8))), (88, .slice (some ad38468) x19475.length C19477), (89, .int .i64 x33829), (90, .pointer (some ((ad38468.add (x33829.toNat * 1)).add 0))), (91, .int .i64 (x19475.getD x33829.toNat 0)), (92, .int .i64 (mx (x19475.getD x33829.toNat 0) 0)), (93, .int .i64 (mn (IntKind.i64.wrap (Int.tmod a8 8)) (mx (x19475.getD x33829.toNat 0) 0)))] #[true, true, true, true, true, false, true, true, true, true, true, true, true, true, true, false, false] (by kernel_rfl) (by kernel_rfl) ?_
                      refine ED.one 5 2 #[true, true, true, true, true, true, true, true, true, true, true, true, true, true, true, false, false] (by kernel_rfl) (by kernel_rfl) (by kernel_rfl) (EO.callD 54 [.pointer (some ⟨g19599, 0, none⟩), .int .i64 x33829] _ 84 (by kernel_rfl) (by kernel_rfl) (by kernel_rfl) (future_Futures_Count.calls hc38466 hS) ?_)
                      rintro v w ⟨rfl, hS⟩
                      have hC : Core B [Ass.box 99 g19599 [.slice A38200 x38199.length C38201, .slice A19602 t19598.length C19603], Ass.deep 87 75 kS75 A38200 C38201 x38199, Ass.own 3 (Kd.int .i64) A19602 C19603 t19598] [Ro.sl (Kd.int .i64) (some ad38468) C19477 x19475, Ro.sl (Kd.int .i64) (some ad38468) C19477 x19475, Ro.sl (Kd.int .u8) A6 C7 l5] _ := ⟨_, _, hS⟩
                      refine ⟨hC, ?_⟩
                      refine ED.quick hN hF hC [15, 16] [1, 5, 7, 8, 82, 83, 84, 85, 86, 87, 88, 89, 90, 91, 92, 93, 94, 95] 0 [(1, .int .u8 a8), (5, .slice (some ad38468) x19475.length C19477), (7, .pointer (some ⟨g19599, 0, none⟩)), (8, .int .i64 x33829), (82, .pointer (some ⟨g19599, 0, none⟩)), (83, .int .i64 x33829), (84, .int .i64 t38465), (85, .int .u8 a8), (86, .int .u8 (Int.tmod a8 8)), (87, .int .i64 (IntKind.i64.wrap (Int.tmod a8 8))), (88, .slice (some ad38468) x19475.length C19477), (89, .int .i64 x33829), (90, .pointer (some ((ad38468.add (x33829.toNat * 1)).add 0))), (91, .int .i64 (x19475.getD x33829.toNat 0)), (92, .int .i64 (mx (x19475.getD x33829.toNat 0) 0)), (93, .int .i64 (mn (IntKind.i64.wrap (Int.tmod a8 8)) (mx (x19475.getD x33829.toNat 0) 0))), (94, .bool (!(decide (t38465 = (mn (IntKind.i64.wrap (Int.tmod a8 8)) (mx (x19475.getD x33829.toNat 0) 0)))))), (95, .bool (!(decide (t38465 = (mn (IntKind.i64.wrap (Int.tmod a8 8)) (mx (x19475.getD x33829.toNat 0) 0))))))] #[true, true, true, true, true, true, true, true, true, true, true, true, true, true, true, true, true] (by kernel_rfl) (by kernel_rfl) ?_
                      refine ED.done (by kernel_rfl) ?_
                      refine EQ.to ?_
                      refine EQ.keep [1, 5, 7, 8, 95] [(1, .int .u8 a8), (5, .slice (some ad38468) x19475.length C19477), (7, .pointer (some ⟨g19599, 0, none⟩)), (8, .int .i64 x33829), (95, .bool (!(decide (t38465 = (mn (IntKind.i64.wrap (Int.tmod a8 8)) (mx (x19475.getD x33829.toNat 0) 0))))))] (by kernel_rfl) ?_
                      exact fun a ha => ⟨!(decide (t38465 = (mn (IntKind.i64.wrap (Int.tmod a8 8)) (mx (x19475.getD x33829.toNat 0) 0)))), ha, (hS.re [2, 2, 2] [] rfl (sub_cons 0 rfl (sub_cons 0 rfl (sub_cons 2 rfl (sub_tail (sub_tail (sub_tail (sub_self)))))))), H⟩
                    · rw [if_neg h38464] at H
                      have hS := hS.drew
                      refine EW.draw (B := B) (id := 20) (ops := Cd13.r.r.r.r.r.r.l.r.l.l.r.l.l.r.l.ops) [Ass.box 99 g19599 [.slice A38200 x38199.length C38201, .slice A19602 t19598.length C19603], Ass.deep 87 75 kS75 A38200 C38201 x38199, Ass.own 3 (Kd.int .i64) A19602 C19603 t19598] [Ro.sl (Kd.int .i64) A19476 C19477 x19475, Ro.sl (Kd.int .i64) A19476 C19477 x19475, Ro.sl (Kd.int .u8) A6 C7 l5] (by kernel_rfl) (by kernel_rfl) ?_
                      have hN : Region.noSelect Cd13.r.r.r.r.r.r.l.r.l.l.r.l.l.r.l.ops = true := (by kernel_rfl)
                      have hF : freeAll Cd13.r.r.r.r.r.r.l.r.l.l.r.l.l.r.l.ops = true := (by kernel_rfl)
                      have hC : Core B [Ass.box 99 g19599 [.slice A38200 x38199.length C38201, .slice A19602 t19598.length C19603], Ass.deep 87 75 kS75 A38200 C38201 x38199, Ass.own 3 (Kd.int .i64) A19602 C19603 t19598] [Ro.sl (Kd.int .i64) A19476 C19477 x19475, Ro.sl (Kd.int .i64) A19476 C19477 x19475, Ro.sl (Kd.int .u8) A6 C7 l5] _ := ⟨_, _, hS⟩
                      refine ED.quick hN hF hC [0, 1, 2] [1, 5, 7, 8, 81] 14 [(1, .int .u8 a8), (5, .slice A19476 x19475.length C19477), (7, .pointer (some ⟨g19599, 0, none⟩)), (8, .int .i64 x33829), (81, .bool (decide (x33829 < 16)))] #[true, true, true, false, false, false, false, false, false, false, false, false, false, false, false, false, false] (by kernel_rfl) (by kernel_rfl) ?_
                      refine ED.keep [1, 5, 7, 8, 81] [(1, .int .u8 a8), (5, .slice A19476 x19475.length C19477), (7, .pointer (some ⟨g19599, 0, none⟩)), (8, .int .i64 x33829), (81, .bool (decide (x33829 < 16)))] (by kernel_rfl) ?_
                      refine ED.as' [(1, .int .u8 a8), (5, .slice A19476 x19475.length C19477), (7, .pointer (some ⟨g19599, 0, none⟩)), (8, .int .i64 x33829), (81, .bool (false))] (by simp only [dec_f h38464, Bool.not_true, Bool.not_false]) ?_
                      refine ED.quick hN hF hC [3, 4, 5, 6, 7, 8, 9, 10, 11, 12, 13, 14, 15, 16] [1, 5, 7, 8, 82, 83, 84, 85, 86, 87, 88, 89, 90, 91, 92, 93, 94, 95] 0 [(1, .int .u8 a8), (5, .slice A19476 x19475.length C19477), (7, .pointer (some ⟨g19599, 0, none⟩)), (8, .int .i64 x33829), (82, undef), (83, undef), (84, undef), (85, undef), (86, undef), (87, undef), (88, undef), (89, undef), (90, undef), (91, undef), (92, undef), (93, undef), (94, undef), (95, .bool (false))] #[true, true, true, true, true, true, true, true, true, true, true, true, true, true, true, true, true] (by kernel_rfl) (by kernel_rfl) ?_
                      refine ED.done (by kernel_rfl) ?_
                      refine EQ.to ?_
                      refine EQ.keep [1, 5, 7, 8, 95] [(1, .int .u8 a8), (5, .slice A19476 x19475.length C19477), (7, .pointer (some ⟨g19599, 0, none⟩)), (8, .int .i64 x33829), (95, .bool (false))] (by kernel_rfl) ?_
                      exact fun a ha => ⟨false, ha, (hS.re [2, 2, 2] [] rfl (sub_cons 0 rfl (sub_cons 0 rfl (sub_cons 2 rfl (sub_tail (sub_tail (sub_tail (sub_self)))))))), H⟩
                  · obtain ⟨x38462, ha, hS, H⟩ := hI
                    rw [hj38463] at H
                    (try dsimp only at H)
                    refine EW.at ?_ a ha
                    clear ha a
                    refine EW.condP' (o := (.tmp 95)) (x := Cd13.r.r.r.r.r.r.l.r.l.l.r.l.l.r.r.l) (y := Cd13.r.r.r.r.r.r.l.r.l.l.r.l.l.r.r.r) (x38462) (by kernel_rfl) (by kernel_rfl) (fun h38469 => ?_) (fun h38469 => ?_)
                    · rw [if_pos h38469] at H
                      refine EW.seq (x := Cd13.r.r.r.r.r.r.l.r.l.l.r.l.l.r.r.l.l) (y := Cd13.r.r.r.r.r.r.l.r.l.l.r.l.l.r.r.l.r) (by kernel_rfl) ?_
                      refine EW.region (id := 21) (ops := Cd13.r.r.r.r.r.r.l.r.l.l.r.l.l.r.r.l.l.ops) (by kernel_rfl) ?_
                      refine EL.quick 1 [4] [(4, .bool (false))] (by kernel_rfl) ?_
                      refine EL.done (by kernel_rfl) ?_
                      refine EQ.code ?_
                      refine EW.ret (by kernel_rfl) ?_
                      refine EQ.ret ?_
                      refine EQ.ret ?_
                      refine EQ.ret ?_
                      refine EQ.ret ?_
                      refine EQ.ret ?_
                      obtain rfl := Option.some.inj H
                      exact EQ.leave (.bool (false)) (by kernel_rfl) ⟨_, rfl, rfl, (hS.re [] [0, 0, 0] rfl (sub_tail (sub_tail (sub_self))))⟩
                    · rw [if_neg h38469] at H
                      refine EW.skip (by kernel_rfl) ?_
                      refine EQ.pop ?_
                      refine EQ.to ?_
                      refine EQ.keep [1, 5, 7, 8] [(1, .int .u8 a8), (5, .slice A19476 x19475.length C19477), (7, .pointer (some ⟨g19599, 0, none⟩)), (8, .int .i64 x33829)] (by kernel_rfl) ?_
                      exact fun a ha => ⟨x38199, A38200, C38201, ha, (hS.re [2, 2, 2] [] rfl (sub_cons 0 rfl (sub_cons 0 rfl (sub_cons 2 rfl (sub_tail (sub_tail (sub_tail (sub_self)))))))), H⟩
              · obtain ⟨x37696, A37697, C37698, ha, hS, H⟩ := hI
                rw [hj37699] at H
                (try dsimp only at H)
                refine EW.at ?_ a ha
                clear ha a
                refine EW.region (id := 13) (ops := Cd13.r.r.r.r.r.r.l.r.l.l.r.r.ops) (by kernel_rfl) ?_
                refine EL.quick 3 [1, 5, 7, 8] [(1, .int .u8 a8), (5, .slice A19476 x19475.length C19477), (7, .pointer (some ⟨g19599, 0, none⟩)), (8, .int .i64 (IntKind.i64.wrap (x33829 + 1)))] (by kernel_rfl) ?_
                refine EL.done (by kernel_rfl) ?_
                refine EQ.to ?_
                refine EQ.keep [1, 5, 7, 8] [(1, .int .u8 a8), (5, .slice A19476 x19475.length C19477), (7, .pointer (some ⟨g19599, 0, none⟩)), (8, .int .i64 (IntKind.i64.wrap (x33829 + 1)))] (by kernel_rfl) ?_
                exact fun a ha => ⟨n, Nat.lt_succ_self n, x37696, IntKind.i64.wrap (x33829 + 1), A37697, C37698, ha, (hS.re [2, 2, 2] [] rfl (sub_cons 0 rfl (sub_cons 0 rfl (sub_cons 2 rfl (sub_tail (sub_tail (sub_tail (sub_self)))))))), H⟩
            · rw [if_neg h36155] at H
              refine EW.exit (id := 2) (by kernel_rfl) ?_
              refine EQ.exitCode ?_
              refine EQ.exitTo ?_
              refine EQ.exitHere ?_
              refine EQ.to ?_
              refine EQ.keep [5, 7] [(5, .slice A19476 x19475.length C19477), (7, .pointer (some ⟨g19599, 0, none⟩))] (by kernel_rfl) ?_
              exact fun a ha => ⟨x33826, A33827, C33828, ha, (hS.re [2, 2, 2] [] rfl (sub_cons 0 rfl (sub_cons 0 rfl (sub_cons 2 rfl (sub_tail (sub_tail (sub_tail (sub_self)))))))), H⟩
        · obtain ⟨x32180, A32181, C32182, ha, hS, H⟩ := hI
          rw [hj32183] at H
          (try dsimp only at H)
          refine EW.at ?_ a ha
          clear ha a
          refine EW.seq (x := Cd13.r.r.r.r.r.r.r.l) (y := Cd13.r.r.r.r.r.r.r.r) (by kernel_rfl) ?_
          refine EW.region (id := 22) (ops := Cd13.r.r.r.r.r.r.r.l.ops) (by kernel_rfl) ?_
          refine EL.quick 1 [5, 96] [(5, .slice A19476 x19475.length C19477), (96, .pointer (some ⟨g19599, 0, none⟩))] (by kernel_rfl) ?_
          obtain ⟨t38470, hc38473, H⟩ := b1_out H
          refine EL.of (EO.callD 57 [.pointer (some ⟨g19599, 0, none⟩)] _ 97 (by kernel_rfl) (by kernel_rfl) (by kernel_rfl) (future_Futures_All.calls hc38473 hS) ?_)
          rintro v w ⟨A38471, C38472, rfl, hS⟩
          refine EL.quick 6 [4] [(4, .bool (decide ((t38470.length : Int) = (mn (x19475.length : Int) 16))))] (by kernel_rfl) ?_
          refine EL.done (by kernel_rfl) ?_
          refine EQ.code ?_
          refine EW.ret (by kernel_rfl) ?_
          obtain rfl := Option.some.inj H
          exact EQ.leave (.bool (decide ((t38470.length : Int) = (mn (x19475.length : Int) 16)))) (by kernel_rfl) ⟨_, rfl, rfl, (hS.re [] [0, 0, 0, 0] rfl (sub_tail (sub_tail (sub_self))))⟩
  · rw [if_neg h19251] at H
    refine EW.seq (x := Cd13.r.l.r.l.l) (y := Cd13.r.l.r.l.r) (by kernel_rfl) ?_
    refine EW.region (id := 2) (ops := Cd13.r.l.r.l.l.ops) (by kernel_rfl) ?_
    refine EL.quick 1 [4] [(4, .bool (false))] (by kernel_rfl) ?_
    refine EL.done (by kernel_rfl) ?_
    refine EQ.code ?_
    refine EW.ret (by kernel_rfl) ?_
    refine EQ.ret ?_
    obtain rfl := Option.some.inj H
    exact EQ.leave (.bool (false)) (by kernel_rfl) ⟨_, rfl, rfl, (hS.re [] [] rfl (sub_self))⟩

def confidantlaw13_FutureQuotas.Pure : Prop := ∀ (l5 : List Int) (a8 : Int), l5.length * 1 ≤ 140737488351232 → (∀ x ∈ l5, (Lit.int .u8 x).wf = true) → (Lit.int .u8 a8).wf = true → ∃ K, confidantlaw13_FutureQuotas.f K l5 a8 = some true

end Go.Proofs.Ytjfnejcanlkknaa.G
