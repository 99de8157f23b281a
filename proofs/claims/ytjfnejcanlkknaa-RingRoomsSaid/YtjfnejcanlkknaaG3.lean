import Derived.Test.YtjfnejcanlkknaaG2
namespace Go.Proofs.Ytjfnejcanlkknaa.G
open Go Go.Fw Go.RowKit Go.Proofs
set_option linter.unusedVariables false
set_option linter.unusedSimpArgs false

/-! ### confidant/confidantlaw15.RingEnds: function 4 -/
def confidantlaw15_RingEnds.l1 (K : Nat) (a5 : Int) (l6 : List Bool) (x3589 : List S37) (j5617 : Int → Int → Option Bool) : Nat → Int → Int → Int → Int → Int → Option Bool
  | 0, _, _, _, _, _ => none
  | n + 1, x5933, x5934, x5935, x5936, x5937 => if x5937 < (IntKind.i64.wrap (Int.tmod a5 20)) then (lt (fun (x6460 : Int) (x6461 : Int) (x6462 : Int) (x6463 : Int) => (confidantlaw15_RingEnds.l1 K a5 l6 x3589 j5617 n x6460 x6461 x6462 x6463 (IntKind.i64.wrap (x5937 + 1)))) fun j6464 => (if 0 ≤ x5937 then (if x5937 < (l6.length : Int) then (if (l6.getD x5937.toNat false) = true then (b4 (ring_Ring_Steal.f K x3589 x5933 x5934) fun (t6503 : Int) (t6504 : Int) (t6505 : S37) (t6506 : Bool) => (lt (fun (x6514 : Bool) => (if x6514 = true then (some false) else (j6464 t6503 t6504 (IntKind.i64.wrap (x5935 + 1)) x5936))) fun j6515 => (if t6506 = true then (j6515 (!(decide ((IntKind.i64.wrap t6505.f0) = x5935)))) else (j6515 true)))) else (b4 (ring_Ring_Pop.f K x3589 x5933 x5934) fun (t6549 : Int) (t6550 : Int) (t6551 : S37) (t6552 : Bool) => (lt (fun (x6560 : Bool) => (if x6560 = true then (some false) else (j6464 t6549 t6550 x5935 (IntKind.i64.wrap (x5936 - 1))))) fun j6561 => (if t6552 = true then (j6561 (!(decide ((IntKind.i64.wrap t6551.f0) = x5936)))) else (j6561 true))))) else none) else none)) else (j5617 x5933 x5934)
def confidantlaw15_RingEnds.l0 (K : Nat) (a5 : Int) (j3594 : (List S37) → Int → Int → Option Bool) : Nat → (List S37) → Int → Int → Int → Option Bool
  | 0, _, _, _, _ => none
  | n + 1, x3639, x3642, x3643, x3644 => if x3644 < (IntKind.i64.wrap (Int.tmod a5 20)) then (b4 (ring_Ring_Push.f K x3639 x3642 x3643 (IntKind.i32.wrap x3644) 0 0 ([] : List Int) 0 0 0 0 0 0 0 0) fun (t3713 : List S37) (t3714 : Int) (t3715 : Int) (t3716 : Bool) => (if t3716 = true then (confidantlaw15_RingEnds.l0 K a5 j3594 n t3713 t3714 t3715 (IntKind.i64.wrap (x3644 + 1))) else (some false))) else (j3594 x3639 x3642 x3643)
def confidantlaw15_RingEnds.f (K : Nat) (a5 : Int) (l6 : List Bool) : Option Bool := b1 (confidantlaw15_known.f K) fun (t3313 : Bool) => (if t3313 = true then (if (l6.length : Int) < (IntKind.i64.wrap (Int.tmod a5 20)) then (some true) else (b3 (ring_New.f K 20) fun (t3325 : List S37) (t3326 : Int) (t3327 : Int) => (lt (fun (x3589 : List S37) (x3592 : Int) (x3593 : Int) => (lt (fun (x5615 : Int) (x5616 : Int) => (b4 (ring_Ring_Pop.f K x3589 x5615 x5616) fun (t6572 : Int) (t6573 : Int) (t6574 : S37) (t6575 : Bool) => (b4 (ring_Ring_Steal.f K x3589 t6572 t6573) fun (t6588 : Int) (t6589 : Int) (t6590 : S37) (t6591 : Bool) => (if t6575 = true then (some false) else (if t6591 = true then (some false) else (b3 (ring_Ring_Len.f K x3589 t6588 t6589) fun (t6598 : Int) (t6599 : Int) (t6600 : Int) => (some (decide (t6600 = 0))))))))) fun j5617 => (confidantlaw15_RingEnds.l1 K a5 l6 x3589 j5617 K x3592 x3593 0 (IntKind.i64.wrap ((IntKind.i64.wrap (Int.tmod a5 20)) - 1)) 0))) fun j3594 => (confidantlaw15_RingEnds.l0 K a5 j3594 K t3325 t3326 t3327 0)))) else (some false))
set_option maxRecDepth 100000 in
theorem confidantlaw15_RingEnds.calls {K : Nat} {a5 : Int} {l6 : List Bool} {A7 : Option Addr} {C8 : Nat} {x3305 : Bool} {B w : World} {os : List Ass} {rs : List Ro} (H : confidantlaw15_RingEnds.f K a5 l6 = some x3305) (hS : St B w (os) (Ro.sl Kd.bool A7 C8 l6 :: rs)) :
    Calls Try.prog 4 [.int .u8 a5, .slice A7 l6.length C8].toArray w (fun en w' => ∃ v, en = .returned v ∧ v = .bool (x3305) ∧ St B w' (os) (Ro.sl Kd.bool A7 C8 l6 :: rs)) := by
  unfold confidantlaw15_RingEnds.f at H
  refine calls_of_EW (args := [.int .u8 a5, .slice A7 l6.length C8]) (c := Cd4) 104 Try.func4 (by kernel_rfl) (by kernel_rfl) (by kernel_rfl) ?_
  refine EW.seq (x := Cd4.l) (y := Cd4.r) (by kernel_rfl) ?_
  refine EW.region (id := 0) (ops := Cd4.l.ops) (by kernel_rfl) ?_
  refine EL.quick 1 [0, 1] [(0, .int .u8 a5), (1, .slice A7 l6.length C8)] (by kernel_rfl) ?_
  refine EL.done (by kernel_rfl) ?_
  refine EQ.code ?_
  refine EW.seq (x := Cd4.r.l) (y := Cd4.r.r) (by kernel_rfl) ?_
  refine EW.seq (x := Cd4.r.l.l) (y := Cd4.r.l.r) (by kernel_rfl) ?_
  refine EW.region (id := 1) (ops := Cd4.r.l.l.ops) (by kernel_rfl) ?_
  obtain ⟨t3313, hc3314, H⟩ := b1_out H
  refine EL.of (EO.callD 15 [] _ 19 (by kernel_rfl) (by kernel_rfl) (by kernel_rfl) (confidantlaw15_known.calls hc3314 hS) ?_)
  rintro v w ⟨rfl, hS⟩
  refine EL.quick 1 [0, 1, 20] [(0, .int .u8 a5), (1, .slice A7 l6.length C8), (20, .bool (!(t3313)))] (by kernel_rfl) ?_
  refine EL.done (by kernel_rfl) ?_
  refine EQ.code ?_
  refine EW.condQ (b := !(t3313)) (o := (.tmp 20)) (x := Cd4.r.l.r.l) (y := Cd4.r.l.r.r) (t3313 = true) (false) (by kernel_rfl) (by kernel_rfl) ⟨fun h => (by rw [h] <;> rfl), fun h => (by rw [Bool.eq_false_iff.2 h] <;> rfl)⟩ (fun h3315 => ?_) (fun h3315 => ?_)
  · rw [if_pos h3315] at H
    refine EW.skip (by kernel_rfl) ?_
    refine EQ.code ?_
    refine EW.seq (x := Cd4.r.r.l) (y := Cd4.r.r.r) (by kernel_rfl) ?_
    refine EW.region (id := 3) (ops := Cd4.r.r.l.ops) (by kernel_rfl) ?_
    refine EL.quick 4 [1, 5] [(1, .slice A7 l6.length C8), (5, .int .i64 (IntKind.i64.wrap (Int.tmod a5 20)))] (by kernel_rfl) ?_
    refine EL.done (by kernel_rfl) ?_
    refine EQ.code ?_
    refine EW.seq (x := Cd4.r.r.r.l) (y := Cd4.r.r.r.r) (by kernel_rfl) ?_
    refine EW.seq (x := Cd4.r.r.r.l.l) (y := Cd4.r.r.r.l.r) (by kernel_rfl) ?_
    refine EW.region (id := 4) (ops := Cd4.r.r.r.l.l.ops) (by kernel_rfl) ?_
    refine EL.quick 4 [1, 5, 27] [(1, .slice A7 l6.length C8), (5, .int .i64 (IntKind.i64.wrap (Int.tmod a5 20))), (27, .bool (decide ((l6.length : Int) < (IntKind.i64.wrap (Int.tmod a5 20)))))] (by kernel_rfl) ?_
    refine EL.done (by kernel_rfl) ?_
    refine EQ.code ?_
    refine EW.condP (o := (.tmp 27)) (x := Cd4.r.r.r.l.r.l) (y := Cd4.r.r.r.l.r.r) ((l6.length : Int) < (IntKind.i64.wrap (Int.tmod a5 20))) (by kernel_rfl) (by kernel_rfl) (fun h3317 => ?_) (fun h3317 => ?_)
    · rw [if_pos h3317] at H
      refine EW.seq (x := Cd4.r.r.r.l.r.l.l) (y := Cd4.r.r.r.l.r.l.r) (by kernel_rfl) ?_
      refine EW.region (id := 5) (ops := Cd4.r.r.r.l.r.l.l.ops) (by kernel_rfl) ?_
      refine EL.quick 1 [4] [(4, .bool (true))] (by kernel_rfl) ?_
      refine EL.done (by kernel_rfl) ?_
      refine EQ.code ?_
      refine EW.ret (by kernel_rfl) ?_
      refine EQ.ret ?_
      obtain rfl := Option.some.inj H
      exact EQ.leave (.bool (true)) (by kernel_rfl) ⟨_, rfl, rfl, (hS.re [] [] rfl (sub_self))⟩
    · rw [if_neg h3317] at H
      refine EW.skip (by kernel_rfl) ?_
      refine EQ.code ?_
      refine EW.seq (x := Cd4.r.r.r.r.l) (y := Cd4.r.r.r.r.r) (by kernel_rfl) ?_
      refine EW.region (id := 6) (ops := Cd4.r.r.r.r.l.ops) (by kernel_rfl) ?_
      obtain ⟨t3325, t3326, t3327, hc3331, H⟩ := b3_out H
      refine EL.of (EO.callD 16 [.int .i64 20] _ 28 (by kernel_rfl) (by kernel_rfl) (by kernel_rfl) (ring_New.calls hc3331 hS) ?_)
      rintro v w ⟨g3328, A3329, C3330, rfl, hS⟩
      refine EL.quick 1 [1, 5, 6] [(1, .slice A7 l6.length C8), (5, .int .i64 (IntKind.i64.wrap (Int.tmod a5 20))), (6, .pointer (some ⟨g3328, 0, none⟩))] (by kernel_rfl) ?_
      refine EL.done (by kernel_rfl) ?_
      refine EQ.code ?_
      obtain ⟨j3594, hj3594, H⟩ := lt_out H
      refine EW.cut (x := Cd4.r.r.r.r.r.l) (y := Cd4.r.r.r.r.r.r) (fun a w => ∃ x3589 : List S37, ∃ x3592 : Int, ∃ x3593 : Int, ∃ A3590 : Option Addr, ∃ C3591 : Nat, Sat 104 [(1, .slice A7 l6.length C8), (5, .int .i64 (IntKind.i64.wrap (Int.tmod a5 20))), (6, .pointer (some ⟨g3328, 0, none⟩))] a ∧ St B w (Ass.box 90 g3328 [.slice A3590 x3589.length C3591, .int .i64 x3592, .int .i64 x3593] :: Ass.own 37 kS37 A3590 C3591 x3589 :: os) (Ro.sl Kd.bool A7 C8 l6 :: rs) ∧ j3594 x3589 x3592 x3593 = some x3305) (by kernel_rfl) ?_ (fun a w hI => ?_)
      · refine EW.seq (x := Cd4.r.r.r.r.r.l.l) (y := Cd4.r.r.r.r.r.l.r) (by kernel_rfl) ?_
        refine EW.region (id := 7) (ops := Cd4.r.r.r.r.r.l.l.ops) (by kernel_rfl) ?_
        refine EL.quick 1 [1, 5, 6, 7] [(1, .slice A7 l6.length C8), (5, .int .i64 (IntKind.i64.wrap (Int.tmod a5 20))), (6, .pointer (some ⟨g3328, 0, none⟩)), (7, .int .i64 0)] (by kernel_rfl) ?_
        refine EL.done (by kernel_rfl) ?_
        refine EQ.code ?_
        refine EW.block (x := Cd4.r.r.r.r.r.l.r.l) (id := 0) (by kernel_rfl) ?_
        refine EW.loop (x := Cd4.r.r.r.r.r.l.r.l.l) (fun n a w => ∃ x3639 : List S37, ∃ x3642 : Int, ∃ x3643 : Int, ∃ x3644 : Int, ∃ A3640 : Option Addr, ∃ C3641 : Nat, Sat 104 [(1, .slice A7 l6.length C8), (5, .int .i64 (IntKind.i64.wrap (Int.tmod a5 20))), (6, .pointer (some ⟨g3328, 0, none⟩)), (7, .int .i64 x3644)] a ∧ St B w (Ass.box 90 g3328 [.slice A3640 x3639.length C3641, .int .i64 x3642, .int .i64 x3643] :: Ass.own 37 kS37 A3640 C3641 x3639 :: os) (Ro.sl Kd.bool A7 C8 l6 :: rs) ∧ confidantlaw15_RingEnds.l0 K a5 j3594 n x3639 x3642 x3643 x3644 = some x3305) K (by kernel_rfl) ?_ (fun n a w hI => ?_)
        · refine EQ.keep [1, 5, 6, 7] [(1, .slice A7 l6.length C8), (5, .int .i64 (IntKind.i64.wrap (Int.tmod a5 20))), (6, .pointer (some ⟨g3328, 0, none⟩)), (7, .int .i64 0)] (by kernel_rfl) ?_
          exact fun a ha => ⟨t3325, t3326, t3327, 0, A3329, C3330, ha, (hS.re [1, 1] [] rfl (sub_cons 0 rfl (sub_tail (sub_self)))), H⟩
        · obtain ⟨x3639, x3642, x3643, x3644, A3640, C3641, ha, hS, H⟩ := hI
          obtain _ | n := n
          · simp [confidantlaw15_RingEnds.l0] at H
          rw [confidantlaw15_RingEnds.l0.eq_2] at H
          refine EW.at ?_ a ha
          clear ha a
          refine EW.seq (x := Cd4.r.r.r.r.r.l.r.l.l.l) (y := Cd4.r.r.r.r.r.l.r.l.l.r) (by kernel_rfl) ?_
          refine EW.seq (x := Cd4.r.r.r.r.r.l.r.l.l.l.l) (y := Cd4.r.r.r.r.r.l.r.l.l.l.r) (by kernel_rfl) ?_
          refine EW.region (id := 8) (ops := Cd4.r.r.r.r.r.l.r.l.l.l.l.ops) (by kernel_rfl) ?_
          refine EL.quick 3 [1, 5, 6, 7, 31] [(1, .slice A7 l6.length C8), (5, .int .i64 (IntKind.i64.wrap (Int.tmod a5 20))), (6, .pointer (some ⟨g3328, 0, none⟩)), (7, .int .i64 x3644), (31, .bool (decide (x3644 < (IntKind.i64.wrap (Int.tmod a5 20)))))] (by kernel_rfl) ?_
          refine EL.done (by kernel_rfl) ?_
          refine EQ.code ?_
          refine EW.condP (o := (.tmp 31)) (x := Cd4.r.r.r.r.r.l.r.l.l.l.r.l) (y := Cd4.r.r.r.r.r.l.r.l.l.l.r.r) (x3644 < (IntKind.i64.wrap (Int.tmod a5 20))) (by kernel_rfl) (by kernel_rfl) (fun h3690 => ?_) (fun h3690 => ?_)
          · rw [if_pos h3690] at H
            refine EW.skip (by kernel_rfl) ?_
            refine EQ.code ?_
            refine EW.seq (x := Cd4.r.r.r.r.r.l.r.l.l.r.l) (y := Cd4.r.r.r.r.r.l.r.l.l.r.r) (by kernel_rfl) ?_
            refine EW.block (x := Cd4.r.r.r.r.r.l.r.l.l.r.l.l) (id := 1) (by kernel_rfl) ?_
            refine EW.seq (x := Cd4.r.r.r.r.r.l.r.l.l.r.l.l.l) (y := Cd4.r.r.r.r.r.l.r.l.l.r.l.l.r) (by kernel_rfl) ?_
            refine EW.region (id := 10) (ops := Cd4.r.r.r.r.r.l.r.l.l.r.l.l.l.ops) (by kernel_rfl) ?_
            refine EL.quick 4 [1, 5, 6, 7, 34, 37] [(1, .slice A7 l6.length C8), (5, .int .i64 (IntKind.i64.wrap (Int.tmod a5 20))), (6, .pointer (some ⟨g3328, 0, none⟩)), (7, .int .i64 x3644), (34, .pointer (some ⟨g3328, 0, none⟩)), (37, .agg #[.int .i32 (IntKind.i32.wrap x3644), .int .i64 0, .int .i64 0, .slice none ([] : List Int).length 0, .int .i32 0, .int .i32 0, .int .i32 0, .int .i32 0, .int .i64 0, .int .i64 0, .int .u32 0, .int .i64 0])] (by kernel_rfl) ?_
            have hS := St.nilR hS (Kd.int .i32)
            have hS : St B _ (Ass.box 90 g3328 [.slice A3640 x3639.length C3641, .int .i64 x3642, .int .i64 x3643] :: Ass.own 37 kS37 A3640 C3641 x3639 :: os) (Ro.sl (Kd.int .i32) none 0 ([] : List Int) :: Ro.sl (Kd.int .i32) none 0 ([] : List Int) :: Ro.sl Kd.bool A7 C8 l6 :: rs) := hS.re [1, 1] [] rfl (sub_cons 0 rfl sub_self)
            obtain ⟨t3713, t3714, t3715, t3716, hc3719, H⟩ := b4_out H
            refine EL.of (EO.callD 19 [.pointer (some ⟨g3328, 0, none⟩), .agg #[.int .i32 (IntKind.i32.wrap x3644), .int .i64 0, .int .i64 0, .slice none ([] : List Int).length 0, .int .i32 0, .int .i32 0, .int .i32 0, .int .i32 0, .int .i64 0, .int .i64 0, .int .u32 0, .int .i64 0]] _ 38 (by kernel_rfl) (by kernel_rfl) (by kernel_rfl) (ring_Ring_Push.calls hc3719 hS) ?_)
            rintro v w ⟨A3717, C3718, rfl, hS⟩
            refine EL.quick 1 [1, 5, 6, 7, 39] [(1, .slice A7 l6.length C8), (5, .int .i64 (IntKind.i64.wrap (Int.tmod a5 20))), (6, .pointer (some ⟨g3328, 0, none⟩)), (7, .int .i64 x3644), (39, .bool (!(t3716)))] (by kernel_rfl) ?_
            refine EL.done (by kernel_rfl) ?_
            refine EQ.code ?_
            refine EW.condQ (b := !(t3716)) (o := (.tmp 39)) (x := Cd4.r.r.r.r.r.l.r.l.l.r.l.l.r.l) (y := Cd4.r.r.r.r.r.l.r.l.l.r.l.l.r.r) (t3716 = true) (false) (by kernel_rfl) (by kernel_rfl) ⟨fun h => (by rw [h] <;> rfl), fun h => (by rw [Bool.eq_false_iff.2 h] <;> rfl)⟩ (fun h3720 => ?_) (fun h3720 => ?_)
            · rw [if_pos h3720] at H
              refine EW.skip (by kernel_rfl) ?_
              refine EQ.pop ?_
              refine EQ.code ?_
              refine EW.region (id := 9) (ops := Cd4.r.r.r.r.r.l.r.l.l.r.r.ops) (by kernel_rfl) ?_
              refine EL.quick 3 [1, 5, 6, 7] [(1, .slice A7 l6.length C8), (5, .int .i64 (IntKind.i64.wrap (Int.tmod a5 20))), (6, .pointer (some ⟨g3328, 0, none⟩)), (7, .int .i64 (IntKind.i64.wrap (x3644 + 1)))] (by kernel_rfl) ?_
              refine EL.done (by kernel_rfl) ?_
              refine EQ.to ?_
              refine EQ.keep [1, 5, 6, 7] [(1, .slice A7 l6.length C8), (5, .int .i64 (IntKind.i64.wrap (Int.tmod a5 20))), (6, .pointer (some ⟨g3328, 0, none⟩)), (7, .int .i64 (IntKind.i64.wrap (x3644 + 1)))] (by kernel_rfl) ?_
              exact fun a ha => ⟨n, Nat.lt_succ_self n, t3713, t3714, t3715, IntKind.i64.wrap (x3644 + 1), A3717, C3718, ha, (hS.re [1, 1] [] rfl (sub_cons 2 rfl (sub_tail (sub_tail (sub_tail (sub_self)))))), H⟩
            · rw [if_neg h3720] at H
              refine EW.seq (x := Cd4.r.r.r.r.r.l.r.l.l.r.l.l.r.l.l) (y := Cd4.r.r.r.r.r.l.r.l.l.r.l.l.r.l.r) (by kernel_rfl) ?_
              refine EW.region (id := 11) (ops := Cd4.r.r.r.r.r.l.r.l.l.r.l.l.r.l.l.ops) (by kernel_rfl) ?_
              refine EL.quick 1 [4] [(4, .bool (false))] (by kernel_rfl) ?_
              refine EL.done (by kernel_rfl) ?_
              refine EQ.code ?_
              refine EW.ret (by kernel_rfl) ?_
              refine EQ.ret ?_
              refine EQ.ret ?_
              refine EQ.ret ?_
              refine EQ.ret ?_
              refine EQ.ret ?_
              obtain rfl := Option.some.inj H
              exact EQ.leave (.bool (false)) (by kernel_rfl) ⟨_, rfl, rfl, (hS.re [] [0, 0] rfl (sub_tail (sub_tail (sub_self))))⟩
          · rw [if_neg h3690] at H
            refine EW.exit (id := 0) (by kernel_rfl) ?_
            refine EQ.exitCode ?_
            refine EQ.exitTo ?_
            refine EQ.exitHere ?_
            refine EQ.to ?_
            refine EQ.keep [1, 5, 6] [(1, .slice A7 l6.length C8), (5, .int .i64 (IntKind.i64.wrap (Int.tmod a5 20))), (6, .pointer (some ⟨g3328, 0, none⟩))] (by kernel_rfl) ?_
            exact fun a ha => ⟨x3639, x3642, x3643, A3640, C3641, ha, (hS.re [1, 1] [] rfl (sub_cons 0 rfl (sub_tail (sub_self)))), H⟩
      · obtain ⟨x3589, x3592, x3593, A3590, C3591, ha, hS, H⟩ := hI
        rw [hj3594] at H
        (try dsimp only at H)
        refine EW.at ?_ a ha
        clear ha a
        refine EW.seq (x := Cd4.r.r.r.r.r.r.l) (y := Cd4.r.r.r.r.r.r.r) (by kernel_rfl) ?_
        refine EW.region (id := 12) (ops := Cd4.r.r.r.r.r.r.l.ops) (by kernel_rfl) ?_
        refine EL.quick 4 [1, 5, 6, 8, 9] [(1, .slice A7 l6.length C8), (5, .int .i64 (IntKind.i64.wrap (Int.tmod a5 20))), (6, .pointer (some ⟨g3328, 0, none⟩)), (8, .int .i64 0), (9, .int .i64 (IntKind.i64.wrap ((IntKind.i64.wrap (Int.tmod a5 20)) - 1)))] (by kernel_rfl) ?_
        refine EL.done (by kernel_rfl) ?_
        refine EQ.code ?_
        obtain ⟨j5617, hj5617, H⟩ := lt_out H
        refine EW.cut (x := Cd4.r.r.r.r.r.r.r.l) (y := Cd4.r.r.r.r.r.r.r.r) (fun a w => ∃ x5615 : Int, ∃ x5616 : Int, Sat 104 [(6, .pointer (some ⟨g3328, 0, none⟩))] a ∧ St B w (Ass.box 90 g3328 [.slice A3590 x3589.length C3591, .int .i64 x5615, .int .i64 x5616] :: Ass.own 37 kS37 A3590 C3591 x3589 :: os) (Ro.sl Kd.bool A7 C8 l6 :: rs) ∧ j5617 x5615 x5616 = some x3305) (by kernel_rfl) ?_ (fun a w hI => ?_)
        · refine EW.seq (x := Cd4.r.r.r.r.r.r.r.l.l) (y := Cd4.r.r.r.r.r.r.r.l.r) (by kernel_rfl) ?_
          refine EW.region (id := 13) (ops := Cd4.r.r.r.r.r.r.r.l.l.ops) (by kernel_rfl) ?_
          refine EL.quick 1 [1, 5, 6, 8, 9, 10] [(1, .slice A7 l6.length C8), (5, .int .i64 (IntKind.i64.wrap (Int.tmod a5 20))), (6, .pointer (some ⟨g3328, 0, none⟩)), (8, .int .i64 0), (9, .int .i64 (IntKind.i64.wrap ((IntKind.i64.wrap (Int.tmod a5 20)) - 1))), (10, .int .i64 0)] (by kernel_rfl) ?_
          refine EL.done (by kernel_rfl) ?_
          refine EQ.code ?_
          refine EW.block (x := Cd4.r.r.r.r.r.r.r.l.r.l) (id := 2) (by kernel_rfl) ?_
          refine EW.loop (x := Cd4.r.r.r.r.r.r.r.l.r.l.l) (fun n a w => ∃ x5933 : Int, ∃ x5934 : Int, ∃ x5935 : Int, ∃ x5936 : Int, ∃ x5937 : Int, Sat 104 [(1, .slice A7 l6.length C8), (5, .int .i64 (IntKind.i64.wrap (Int.tmod a5 20))), (6, .pointer (some ⟨g3328, 0, none⟩)), (8, .int .i64 x5935), (9, .int .i64 x5936), (10, .int .i64 x5937)] a ∧ St B w (Ass.box 90 g3328 [.slice A3590 x3589.length C3591, .int .i64 x5933, .int .i64 x5934] :: Ass.own 37 kS37 A3590 C3591 x3589 :: os) (Ro.sl Kd.bool A7 C8 l6 :: rs) ∧ confidantlaw15_RingEnds.l1 K a5 l6 x3589 j5617 n x5933 x5934 x5935 x5936 x5937 = some x3305) K (by kernel_rfl) ?_ (fun n a w hI => ?_)
          · refine EQ.keep [1, 5, 6, 8, 9, 10] [(1, .slice A7 l6.length C8), (5, .int .i64 (IntKind.i64.wrap (Int.tmod a5 20))), (6, .pointer (some ⟨g3328, 0, none⟩)), (8, .int .i64 0), (9, .int .i64 (IntKind.i64.wrap ((IntKind.i64.wrap (Int.tmod a5 20)) - 1))), (10, .int .i64 0)] (by kernel_rfl) ?_
            exact fun a ha => ⟨x3592, x3593, 0, IntKind.i64.wrap ((IntKind.i64.wrap (Int.tmod a5 20)) - 1), 0, ha, (hS.re [1, 1] [] rfl (sub_cons 0 rfl (sub_tail (sub_self)))), H⟩
          · obtain ⟨x5933, x5934, x5935, x5936, x5937, ha, hS, H⟩ := hI
            obtain _ | n := n
            · simp [confidantlaw15_RingEnds.l1] at H
            rw [confidantlaw15_RingEnds.l1.eq_2] at H
            refine EW.at ?_ a ha
            clear ha a
            refine EW.seq (x := Cd4.r.r.r.r.r.r.r.l.r.l.l.l) (y := Cd4.r.r.r.r.r.r.r.l.r.l.l.r) (by kernel_rfl) ?_
            refine EW.seq (x := Cd4.r.r.r.r.r.r.r.l.r.l.l.l.l) (y := Cd4.r.r.r.r.r.r.r.l.r.l.l.l.r) (by kernel_rfl) ?_
            refine EW.region (id := 14) (ops := Cd4.r.r.r.r.r.r.r.l.r.l.l.l.l.ops) (by kernel_rfl) ?_
            refine EL.quick 3 [1, 5, 6, 8, 9, 10, 44] [(1, .slice A7 l6.length C8), (5, .int .i64 (IntKind.i64.wrap (Int.tmod a5 20))), (6, .pointer (some ⟨g3328, 0, none⟩)), (8, .int .i64 x5935), (9, .int .i64 x5936), (10, .int .i64 x5937), (44, .bool (decide (x5937 < (IntKind.i64.wrap (Int.tmod a5 20)))))] (by kernel_rfl) ?_
            refine EL.done (by kernel_rfl) ?_
            refine EQ.code ?_
            refine EW.condP (o := (.tmp 44)) (x := Cd4.r.r.r.r.r.r.r.l.r.l.l.l.r.l) (y := Cd4.r.r.r.r.r.r.r.l.r.l.l.l.r.r) (x5937 < (IntKind.i64.wrap (Int.tmod a5 20))) (by kernel_rfl) (by kernel_rfl) (fun h6257 => ?_) (fun h6257 => ?_)
            · rw [if_pos h6257] at H
              refine EW.skip (by kernel_rfl) ?_
              refine EQ.code ?_
              obtain ⟨j6464, hj6464, H⟩ := lt_out H
              refine EW.cut (x := Cd4.r.r.r.r.r.r.r.l.r.l.l.r.l) (y := Cd4.r.r.r.r.r.r.r.l.r.l.l.r.r) (fun a w => ∃ x6460 : Int, ∃ x6461 : Int, ∃ x6462 : Int, ∃ x6463 : Int, Sat 104 [(1, .slice A7 l6.length C8), (5, .int .i64 (IntKind.i64.wrap (Int.tmod a5 20))), (6, .pointer (some ⟨g3328, 0, none⟩)), (8, .int .i64 x6462), (9, .int .i64 x6463), (10, .int .i64 x5937)] a ∧ St B w (Ass.box 90 g3328 [.slice A3590 x3589.length C3591, .int .i64 x6460, .int .i64 x6461] :: Ass.own 37 kS37 A3590 C3591 x3589 :: os) (Ro.sl Kd.bool A7 C8 l6 :: rs) ∧ j6464 x6460 x6461 x6462 x6463 = some x3305) (by kernel_rfl) ?_ (fun a w hI => ?_)
              · refine EW.block (x := Cd4.r.r.r.r.r.r.r.l.r.l.l.r.l.l) (id := 3) (by kernel_rfl) ?_
                refine EW.seq (x := Cd4.r.r.r.r.r.r.r.l.r.l.l.r.l.l.l) (y := Cd4.r.r.r.r.r.r.r.l.r.l.l.r.l.l.r) (by kernel_rfl) ?_
                refine EW.region (id := 16) (ops := Cd4.r.r.r.r.r.r.r.l.r.l.l.r.l.l.l.ops) (by kernel_rfl) ?_
                refine EL.quick 2 [1, 5, 6, 8, 9, 10, 47, 48] [(1, .slice A7 l6.length C8), (5, .int .i64 (IntKind.i64.wrap (Int.tmod a5 20))), (6, .pointer (some ⟨g3328, 0, none⟩)), (8, .int .i64 x5935), (9, .int .i64 x5936), (10, .int .i64 x5937), (47, .slice A7 l6.length C8), (48, .int .i64 x5937)] (by kernel_rfl) ?_
                obtain ⟨h6468, H⟩ := ite_in H
                obtain ⟨h6469, H⟩ := ite_in H
                obtain ⟨ad6470, rfl⟩ := St.rd_some hS (Rd.ro 0 rfl) h6468 h6469
                refine EL.of (EO.Y (YO.idx 45 1 ad6470 l6.length C8 .i64 x5937 49 (by kernel_rfl) (by kernel_rfl) (by kernel_rfl) (by kernel_rfl) h6468 h6469) ?_)
                refine EL.of (EO.Y (YO.loadEl hS Kd.bool ad6470 C8 l6 (Rd.ro 0 rfl) false encB encB_of x5937 h6468 h6469 4 1 0 1 rfl (.bool ((l6.getD x5937.toNat false))) 50 (by kernel_rfl) (by kernel_rfl) (by kernel_rfl) (by kernel_rfl)) ?_)
                refine EL.done (by kernel_rfl) ?_
                refine EQ.code ?_
                refine EW.condP' (o := (.tmp 50)) (x := Cd4.r.r.r.r.r.r.r.l.r.l.l.r.l.l.r.l) (y := Cd4.r.r.r.r.r.r.r.l.r.l.l.r.l.l.r.r) ((l6.getD x5937.toNat false)) (by kernel_rfl) (by kernel_rfl) (fun h6471 => ?_) (fun h6471 => ?_)
                · rw [if_pos h6471] at H
                  refine EW.seq (x := Cd4.r.r.r.r.r.r.r.l.r.l.l.r.l.l.r.l.l) (y := Cd4.r.r.r.r.r.r.r.l.r.l.l.r.l.l.r.l.r) (by kernel_rfl) ?_
                  refine EW.seq (x := Cd4.r.r.r.r.r.r.r.l.r.l.l.r.l.l.r.l.l.l) (y := Cd4.r.r.r.r.r.r.r.l.r.l.l.r.l.l.r.l.l.r) (by kernel_rfl) ?_
                  refine EW.region (id := 17) (ops := Cd4.r.r.r.r.r.r.r.l.r.l.l.r.l.l.r.l.l.l.ops) (by kernel_rfl) ?_
                  refine EL.quick 1 [1, 5, 6, 8, 9, 10, 52] [(1, .slice (some ad6470) l6.length C8), (5, .int .i64 (IntKind.i64.wrap (Int.tmod a5 20))), (6, .pointer (some ⟨g3328, 0, none⟩)), (8, .int .i64 x5935), (9, .int .i64 x5936), (10, .int .i64 x5937), (52, .pointer (some ⟨g3328, 0, none⟩))] (by kernel_rfl) ?_
                  obtain ⟨t6503, t6504, t6505, t6506, hc6509, H⟩ := b4_out H
                  refine EL.of (EO.callD 24 [.pointer (some ⟨g3328, 0, none⟩)] _ 53 (by kernel_rfl) (by kernel_rfl) (by kernel_rfl) (ring_Ring_Steal.calls hc6509 hS) ?_)
                  rintro v w ⟨A6507, C6508, rfl, hS⟩
                  refine EL.quick 3 [1, 5, 6, 8, 9, 10, 54, 55] [(1, .slice (some ad6470) l6.length C8), (5, .int .i64 (IntKind.i64.wrap (Int.tmod a5 20))), (6, .pointer (some ⟨g3328, 0, none⟩)), (8, .int .i64 x5935), (9, .int .i64 x5936), (10, .int .i64 x5937), (54, .agg #[.int .i32 t6505.f0, .int .i64 t6505.f1, .int .i64 t6505.f2, .slice A6507 t6505.f3.length C6508, .int .i32 t6505.f4.f0, .int .i32 t6505.f4.f1, .int .i32 t6505.f4.f2, .int .i32 t6505.f4.f3, .int .i64 t6505.f5, .int .i64 t6505.f6, .int .u32 t6505.f7, .int .i64 t6505.f8]), (55, .bool (t6506))] (by kernel_rfl) ?_
                  refine EL.of (EO.alloc hS 37 (.agg #[.int .i32 0, .int .i64 0, .int .i64 0, .slice none ([] : List Int).length 0, .int .i32 0, .int .i32 0, .int .i32 0, .int .i32 0, .int .i64 0, .int .i64 0, .int .u32 0, .int .i64 0]) [.int .i32 0, .int .i64 0, .int .i64 0, .slice none ([] : List Int).length 0, .int .i32 0, .int .i32 0, .int .i32 0, .int .i32 0, .int .i64 0, .int .i64 0, .int .u32 0, .int .i64 0] 11 (by kernel_rfl) (by kernel_rfl) (by kernel_rfl) (by kernel_rfl) (by first | rfl | kernel_rfl) ?_)
                  intro g6510 w hS
                  refine EL.of (EO.storeBox (os' := Ass.box 37 g6510 [.int .i32 t6505.f0, .int .i64 t6505.f1, .int .i64 t6505.f2, .slice A6507 t6505.f3.length C6508, .int .i32 t6505.f4.f0, .int .i32 t6505.f4.f1, .int .i32 t6505.f4.f2, .int .i32 t6505.f4.f3, .int .i64 t6505.f5, .int .i64 t6505.f6, .int .u32 t6505.f7, .int .i64 t6505.f8] :: Ass.box 90 g3328 [.slice A3590 x3589.length C3591, .int .i64 t6503, .int .i64 t6504] :: Ass.own 37 kS37 A3590 C3591 x3589 :: os) hS 0 rfl 37 0 (.agg #[.int .i32 t6505.f0, .int .i64 t6505.f1, .int .i64 t6505.f2, .slice A6507 t6505.f3.length C6508, .int .i32 t6505.f4.f0, .int .i32 t6505.f4.f1, .int .i32 t6505.f4.f2, .int .i32 t6505.f4.f3, .int .i64 t6505.f5, .int .i64 t6505.f6, .int .u32 t6505.f7, .int .i64 t6505.f8]) [.int .i32 t6505.f0, .int .i64 t6505.f1, .int .i64 t6505.f2, .slice A6507 t6505.f3.length C6508, .int .i32 t6505.f4.f0, .int .i32 t6505.f4.f1, .int .i32 t6505.f4.f2, .int .i32 t6505.f4.f3, .int .i64 t6505.f5, .int .i64 t6505.f6, .int .u32 t6505.f7, .int .i64 t6505.f8] (by kernel_rfl) (by kernel_rfl) (by kernel_rfl) (by kernel_rfl) (by kernel_rfl) (by kernel_rfl) rfl rfl ?_)
                  intro w hS
                  refine EL.quick 1 [1, 5, 6, 8, 9, 10, 11, 12] [(1, .slice (some ad6470) l6.length C8), (5, .int .i64 (IntKind.i64.wrap (Int.tmod a5 20))), (6, .pointer (some ⟨g3328, 0, none⟩)), (8, .int .i64 x5935), (9, .int .i64 x5936), (10, .int .i64 x5937), (11, .pointer (some ⟨g6510, 0, none⟩)), (12, .bool (t6506))] (by kernel_rfl) ?_
                  refine EL.done (by kernel_rfl) ?_
                  refine EQ.code ?_
                  obtain ⟨j6515, hj6515, H⟩ := lt_out H
                  refine EW.cut (x := Cd4.r.r.r.r.r.r.r.l.r.l.l.r.l.l.r.l.l.r.l) (y := Cd4.r.r.r.r.r.r.r.l.r.l.l.r.l.l.r.l.l.r.r) (fun a w => ∃ x6514 : Bool, Sat 104 [(1, .slice (some ad6470) l6.length C8), (5, .int .i64 (IntKind.i64.wrap (Int.tmod a5 20))), (6, .pointer (some ⟨g3328, 0, none⟩)), (8, .int .i64 x5935), (9, .int .i64 x5936), (10, .int .i64 x5937), (64, .bool (x6514))] a ∧ St B w (Ass.box 37 g6510 [.int .i32 t6505.f0, .int .i64 t6505.f1, .int .i64 t6505.f2, .slice A6507 t6505.f3.length C6508, .int .i32 t6505.f4.f0, .int .i32 t6505.f4.f1, .int .i32 t6505.f4.f2, .int .i32 t6505.f4.f3, .int .i64 t6505.f5, .int .i64 t6505.f6, .int .u32 t6505.f7, .int .i64 t6505.f8] :: Ass.box 90 g3328 [.slice A3590 x3589.length C3591, .int .i64 t6503, .int .i64 t6504] :: Ass.own 37 kS37 A3590 C3591 x3589 :: os) (Ro.sl (Kd.int .i32) A6507 C6508 t6505.f3 :: Ro.sl Kd.bool (some ad6470) C8 l6 :: rs) ∧ j6515 x6514 = some x3305) (by kernel_rfl) ?_ (fun a w hI => ?_)
                  · refine EW.region (id := 18) (ops := Cd4.r.r.r.r.r.r.r.l.r.l.l.r.l.l.r.l.l.r.l.ops) (by kernel_rfl) ?_
                    refine EL.quick 3 [1, 5, 6, 8, 9, 10, 11, 58] [(1, .slice (some ad6470) l6.length C8), (5, .int .i64 (IntKind.i64.wrap (Int.tmod a5 20))), (6, .pointer (some ⟨g3328, 0, none⟩)), (8, .int .i64 x5935), (9, .int .i64 x5936), (10, .int .i64 x5937), (11, .pointer (some ⟨g6510, 0, none⟩)), (58, .bool (!(t6506)))] (by kernel_rfl) ?_
                    by_cases h6516 : t6506 = true
                    · rw [if_pos h6516] at H
                      refine EL.keep [1, 5, 6, 8, 9, 10, 11, 58] [(1, .slice (some ad6470) l6.length C8), (5, .int .i64 (IntKind.i64.wrap (Int.tmod a5 20))), (6, .pointer (some ⟨g3328, 0, none⟩)), (8, .int .i64 x5935), (9, .int .i64 x5936), (10, .int .i64 x5937), (11, .pointer (some ⟨g6510, 0, none⟩)), (58, .bool (!(t6506)))] (by kernel_rfl) ?_
                      refine EL.as' [(1, .slice (some ad6470) l6.length C8), (5, .int .i64 (IntKind.i64.wrap (Int.tmod a5 20))), (6, .pointer (some ⟨g3328, 0, none⟩)), (8, .int .i64 x5935), (9, .int .i64 x5936), (10, .int .i64 x5937), (11, .pointer (some ⟨g6510, 0, none⟩)), (58, .bool (false))] (by simp only [h6516, Bool.not_true, Bool.not_false]) ?_
                      refine EL.quick 1 [1, 5, 6, 8, 9, 10, 58, 59] [(1, .slice (some ad6470) l6.length C8), (5, .int .i64 (IntKind.i64.wrap (Int.tmod a5 20))), (6, .pointer (some ⟨g3328, 0, none⟩)), (8, .int .i64 x5935), (9, .int .i64 x5936), (10, .int .i64 x5937), (58, .bool (false)), (59, .pointer (some ⟨g6510, 0, none⟩))] (by kernel_rfl) ?_
                      refine EL.of (EO.Y (YO.loadBox hS 0 rfl 21 0 1 (.int .i32 t6505.f0) 60 (by kernel_rfl) (by kernel_rfl) (by kernel_rfl) (by kernel_rfl)) ?_)
                      refine EL.quick 4 [1, 5, 6, 8, 9, 10, 59, 60, 61, 62, 63, 64] [(1, .slice (some ad6470) l6.length C8), (5, .int .i64 (IntKind.i64.wrap (Int.tmod a5 20))), (6, .pointer (some ⟨g3328, 0, none⟩)), (8, .int .i64 x5935), (9, .int .i64 x5936), (10, .int .i64 x5937), (59, .pointer (some ⟨g6510, 0, none⟩)), (60, .int .i32 t6505.f0), (61, .int .i64 (IntKind.i64.wrap t6505.f0)), (62, .int .i64 x5935), (63, .bool (!(decide ((IntKind.i64.wrap t6505.f0) = x5935)))), (64, .bool (!(decide ((IntKind.i64.wrap t6505.f0) = x5935))))] (by kernel_rfl) ?_
                      refine EL.done (by kernel_rfl) ?_
                      refine EQ.to ?_
                      refine EQ.keep [1, 5, 6, 8, 9, 10, 64] [(1, .slice (some ad6470) l6.length C8), (5, .int .i64 (IntKind.i64.wrap (Int.tmod a5 20))), (6, .pointer (some ⟨g3328, 0, none⟩)), (8, .int .i64 x5935), (9, .int .i64 x5936), (10, .int .i64 x5937), (64, .bool (!(decide ((IntKind.i64.wrap t6505.f0) = x5935))))] (by kernel_rfl) ?_
                      exact fun a ha => ⟨!(decide ((IntKind.i64.wrap t6505.f0) = x5935)), ha, (hS.re [2, 2, 2] [] rfl (sub_cons 0 rfl (sub_cons 1 rfl (sub_tail (sub_tail (sub_self)))))), H⟩
                    · rw [if_neg h6516] at H
                      refine EL.keep [1, 5, 6, 8, 9, 10, 11, 58] [(1, .slice (some ad6470) l6.length C8), (5, .int .i64 (IntKind.i64.wrap (Int.tmod a5 20))), (6, .pointer (some ⟨g3328, 0, none⟩)), (8, .int .i64 x5935), (9, .int .i64 x5936), (10, .int .i64 x5937), (11, .pointer (some ⟨g6510, 0, none⟩)), (58, .bool (!(t6506)))] (by kernel_rfl) ?_
                      refine EL.as' [(1, .slice (some ad6470) l6.length C8), (5, .int .i64 (IntKind.i64.wrap (Int.tmod a5 20))), (6, .pointer (some ⟨g3328, 0, none⟩)), (8, .int .i64 x5935), (9, .int .i64 x5936), (10, .int .i64 x5937), (11, .pointer (some ⟨g6510, 0, none⟩)), (58, .bool (true))] (by simp only [(Bool.eq_false_iff.2 h6516), Bool.not_true, Bool.not_false]) ?_
                      refine EL.quick 6 [1, 5, 6, 8, 9, 10, 64] [(1, .slice (some ad6470) l6.length C8), (5, .int .i64 (IntKind.i64.wrap (Int.tmod a5 20))), (6, .pointer (some ⟨g3328, 0, none⟩)), (8, .int .i64 x5935), (9, .int .i64 x5936), (10, .int .i64 x5937), (64, .bool (true))] (by kernel_rfl) ?_
                      refine EL.done (by kernel_rfl) ?_
                      refine EQ.to ?_
                      refine EQ.keep [1, 5, 6, 8, 9, 10, 64] [(1, .slice (some ad6470) l6.length C8), (5, .int .i64 (IntKind.i64.wrap (Int.tmod a5 20))), (6, .pointer (some ⟨g3328, 0, none⟩)), (8, .int .i64 x5935), (9, .int .i64 x5936), (10, .int .i64 x5937), (64, .bool (true))] (by kernel_rfl) ?_
                      exact fun a ha => ⟨true, ha, (hS.re [2, 2, 2] [] rfl (sub_cons 0 rfl (sub_cons 1 rfl (sub_tail (sub_tail (sub_self)))))), H⟩
                  · obtain ⟨x6514, ha, hS, H⟩ := hI
                    rw [hj6515] at H
                    (try dsimp only at H)
                    refine EW.at ?_ a ha
                    clear ha a
                    refine EW.condP' (o := (.tmp 64)) (x := Cd4.r.r.r.r.r.r.r.l.r.l.l.r.l.l.r.l.l.r.r.l) (y := Cd4.r.r.r.r.r.r.r.l.r.l.l.r.l.l.r.l.l.r.r.r) (x6514) (by kernel_rfl) (by kernel_rfl) (fun h6517 => ?_) (fun h6517 => ?_)
                    · rw [if_pos h6517] at H
                      refine EW.seq (x := Cd4.r.r.r.r.r.r.r.l.r.l.l.r.l.l.r.l.l.r.r.l.l) (y := Cd4.r.r.r.r.r.r.r.l.r.l.l.r.l.l.r.l.l.r.r.l.r) (by kernel_rfl) ?_
                      refine EW.region (id := 19) (ops := Cd4.r.r.r.r.r.r.r.l.r.l.l.r.l.l.r.l.l.r.r.l.l.ops) (by kernel_rfl) ?_
                      refine EL.quick 1 [4] [(4, .bool (false))] (by kernel_rfl) ?_
                      refine EL.done (by kernel_rfl) ?_
                      refine EQ.code ?_
                      refine EW.ret (by kernel_rfl) ?_
                      refine EQ.ret ?_
                      refine EQ.ret ?_
                      refine EQ.ret ?_
                      refine EQ.ret ?_
                      refine EQ.ret ?_
                      refine EQ.ret ?_
                      obtain rfl := Option.some.inj H
                      exact EQ.leave (.bool (false)) (by kernel_rfl) ⟨_, rfl, rfl, (hS.re [] [0, 0, 0] rfl (sub_tail (sub_self)))⟩
                    · rw [if_neg h6517] at H
                      refine EW.skip (by kernel_rfl) ?_
                      refine EQ.code ?_
                      refine EW.region (id := 20) (ops := Cd4.r.r.r.r.r.r.r.l.r.l.l.r.l.l.r.l.r.ops) (by kernel_rfl) ?_
                      refine EL.quick 3 [1, 5, 6, 8, 9, 10] [(1, .slice (some ad6470) l6.length C8), (5, .int .i64 (IntKind.i64.wrap (Int.tmod a5 20))), (6, .pointer (some ⟨g3328, 0, none⟩)), (8, .int .i64 (IntKind.i64.wrap (x5935 + 1))), (9, .int .i64 x5936), (10, .int .i64 x5937)] (by kernel_rfl) ?_
                      refine EL.done (by kernel_rfl) ?_
                      refine EQ.pop ?_
                      refine EQ.to ?_
                      refine EQ.keep [1, 5, 6, 8, 9, 10] [(1, .slice (some ad6470) l6.length C8), (5, .int .i64 (IntKind.i64.wrap (Int.tmod a5 20))), (6, .pointer (some ⟨g3328, 0, none⟩)), (8, .int .i64 (IntKind.i64.wrap (x5935 + 1))), (9, .int .i64 x5936), (10, .int .i64 x5937)] (by kernel_rfl) ?_
                      exact fun a ha => ⟨t6503, t6504, IntKind.i64.wrap (x5935 + 1), x5936, ha, (hS.re [2, 2] [2] rfl (sub_cons 1 rfl (sub_tail (sub_tail (sub_self))))), H⟩
                · rw [if_neg h6471] at H
                  refine EW.seq (x := Cd4.r.r.r.r.r.r.r.l.r.l.l.r.l.l.r.r.l) (y := Cd4.r.r.r.r.r.r.r.l.r.l.l.r.l.l.r.r.r) (by kernel_rfl) ?_
                  refine EW.seq (x := Cd4.r.r.r.r.r.r.r.l.r.l.l.r.l.l.r.r.l.l) (y := Cd4.r.r.r.r.r.r.r.l.r.l.l.r.l.l.r.r.l.r) (by kernel_rfl) ?_
                  refine EW.region (id := 21) (ops := Cd4.r.r.r.r.r.r.r.l.r.l.l.r.l.l.r.r.l.l.ops) (by kernel_rfl) ?_
                  refine EL.quick 1 [1, 5, 6, 8, 9, 10, 68] [(1, .slice (some ad6470) l6.length C8), (5, .int .i64 (IntKind.i64.wrap (Int.tmod a5 20))), (6, .pointer (some ⟨g3328, 0, none⟩)), (8, .int .i64 x5935), (9, .int .i64 x5936), (10, .int .i64 x5937), (68, .pointer (some ⟨g3328, 0, none⟩))] (by kernel_rfl) ?_
                  obtain ⟨t6549, t6550, t6551, t6552, hc6555, H⟩ := b4_out H
                  refine EL.of (EO.callD 21 [.pointer (some ⟨g3328, 0, none⟩)] _ 69 (by kernel_rfl) (by kernel_rfl) (by kernel_rfl) (ring_Ring_Pop.calls hc6555 hS) ?_)
                  rintro v w ⟨A6553, C6554, rfl, hS⟩
                  refine EL.quick 3 [1, 5, 6, 8, 9, 10, 70, 71] [(1, .slice (some ad6470) l6.length C8), (5, .int .i64 (IntKind.i64.wrap (Int.tmod a5 20))), (6, .pointer (some ⟨g3328, 0, none⟩)), (8, .int .i64 x5935), (9, .int .i64 x5936), (10, .int .i64 x5937), (70, .agg #[.int .i32 t6551.f0, .int .i64 t6551.f1, .int .i64 t6551.f2, .slice A6553 t6551.f3.length C6554, .int .i32 t6551.f4.f0, .int .i32 t6551.f4.f1, .int .i32 t6551.f4.f2, .int .i32 t6551.f4.f3, .int .i64 t6551.f5, .int .i64 t6551.f6, .int .u32 t6551.f7, .int .i64 t6551.f8]), (71, .bool (t6552))] (by kernel_rfl) ?_
                  refine EL.of (EO.alloc hS 37 (.agg #[.int .i32 0, .int .i64 0, .int .i64 0, .slice none ([] : List Int).length 0, .int .i32 0, .int .i32 0, .int .i32 0, .int .i32 0, .int .i64 0, .int .i64 0, .int .u32 0, .int .i64 0]) [.int .i32 0, .int .i64 0, .int .i64 0, .slice none ([] : List Int).length 0, .int .i32 0, .int .i32 0, .int .i32 0, .int .i32 0, .int .i64 0, .int .i64 0, .int .u32 0, .int .i64 0] 13 (by kernel_rfl) (by kernel_rfl) (by kernel_rfl) (by kernel_rfl) (by first | rfl | kernel_rfl) ?_)
                  intro g6556 w hS
                  refine EL.of (EO.storeBox (os' := Ass.box 37 g6556 [.int .i32 t6551.f0, .int .i64 t6551.f1, .int .i64 t6551.f2, .slice A6553 t6551.f3.length C6554, .int .i32 t6551.f4.f0, .int .i32 t6551.f4.f1, .int .i32 t6551.f4.f2, .int .i32 t6551.f4.f3, .int .i64 t6551.f5, .int .i64 t6551.f6, .int .u32 t6551.f7, .int .i64 t6551.f8] :: Ass.box 90 g3328 [.slice A3590 x3589.length C3591, .int .i64 t6549, .int .i64 t6550] :: Ass.own 37 kS37 A3590 C3591 x3589 :: os) hS 0 rfl 37 0 (.agg #[.int .i32 t6551.f0, .int .i64 t6551.f1, .int .i64 t6551.f2, .slice A6553 t6551.f3.length C6554, .int .i32 t6551.f4.f0, .int .i32 t6551.f4.f1, .int .i32 t6551.f4.f2, .int .i32 t6551.f4.f3, .int .i64 t6551.f5, .int .i64 t6551.f6, .int .u32 t6551.f7, .int .i64 t6551.f8]) [.int .i32 t6551.f0, .int .i64 t6551.f1, .int .i64 t6551.f2, .slice A6553 t6551.f3.length C6554, .int .i32 t6551.f4.f0, .int .i32 t6551.f4.f1, .int .i32 t6551.f4.f2, .int .i32 t6551.f4.f3, .int .i64 t6551.f5, .int .i64 t6551.f6, .int .u32 t6551.f7, .int .i64 t6551.f8] (by kernel_rfl) (by kernel_rfl) (by kernel_rfl) (by kernel_rfl) (by kernel_rfl) (by kernel_rfl) rfl rfl ?_)
                  intro w hS
                  refine EL.quick 1 [1, 5, 6, 8, 9, 10, 13, 14] [(1, .slice (some ad6470) l6.length C8), (5, .int .i64 (IntKind.i64.wrap (Int.tmod a5 20))), (6, .pointer (some ⟨g3328, 0, none⟩)), (8, .int .i64 x5935), (9, .int .i64 x5936), (10, .int .i64 x5937), (13, .pointer (some ⟨g6556, 0, none⟩)), (14, .bool (t6552))] (by kernel_rfl) ?_
                  refine EL.done (by kernel_rfl) ?_
                  refine EQ.code ?_
                  obtain ⟨j6561, hj6561, H⟩ := lt_out H
                  refine EW.cut (x := Cd4.r.r.r.r.r.r.r.l.r.l.l.r.l.l.r.r.l.r.l) (y := Cd4.r.r.r.r.r.r.r.l.r.l.l.r.l.l.r.r.l.r.r) (fun a w => ∃ x6560 : Bool, Sat 104 [(1, .slice (some ad6470) l6.length C8), (5, .int .i64 (IntKind.i64.wrap (Int.tmod a5 20))), (6, .pointer (some ⟨g3328, 0, none⟩)), (8, .int .i64 x5935), (9, .int .i64 x5936), (10, .int .i64 x5937), (80, .bool (x6560))] a ∧ St B w (Ass.box 37 g6556 [.int .i32 t6551.f0, .int .i64 t6551.f1, .int .i64 t6551.f2, .slice A6553 t6551.f3.length C6554, .int .i32 t6551.f4.f0, .int .i32 t6551.f4.f1, .int .i32 t6551.f4.f2, .int .i32 t6551.f4.f3, .int .i64 t6551.f5, .int .i64 t6551.f6, .int .u32 t6551.f7, .int .i64 t6551.f8] :: Ass.box 90 g3328 [.slice A3590 x3589.length C3591, .int .i64 t6549, .int .i64 t6550] :: Ass.own 37 kS37 A3590 C3591 x3589 :: os) (Ro.sl (Kd.int .i32) A6553 C6554 t6551.f3 :: Ro.sl Kd.bool (some ad6470) C8 l6 :: rs) ∧ j6561 x6560 = some x3305) (by kernel_rfl) ?_ (fun a w hI => ?_)
                  · refine EW.region (id := 22) (ops := Cd4.r.r.r.r.r.r.r.l.r.l.l.r.l.l.r.r.l.r.l.ops) (by kernel_rfl) ?_
                    refine EL.quick 3 [1, 5, 6, 8, 9, 10, 13, 74] [(1, .slice (some ad6470) l6.length C8), (5, .int .i64 (IntKind.i64.wrap (Int.tmod a5 20))), (6, .pointer (some ⟨g3328, 0, none⟩)), (8, .int .i64 x5935), (9, .int .i64 x5936), (10, .int .i64 x5937), (13, .pointer (some ⟨g6556, 0, none⟩)), (74, .bool (!(t6552)))] (by kernel_rfl) ?_
                    by_cases h6562 : t6552 = true
                    · rw [if_pos h6562] at H
                      refine EL.keep [1, 5, 6, 8, 9, 10, 13, 74] [(1, .slice (some ad6470) l6.length C8), (5, .int .i64 (IntKind.i64.wrap (Int.tmod a5 20))), (6, .pointer (some ⟨g3328, 0, none⟩)), (8, .int .i64 x5935), (9, .int .i64 x5936), (10, .int .i64 x5937), (13, .pointer (some ⟨g6556, 0, none⟩)), (74, .bool (!(t6552)))] (by kernel_rfl) ?_
                      refine EL.as' [(1, .slice (some ad6470) l6.length C8), (5, .int .i64 (IntKind.i64.wrap (Int.tmod a5 20))), (6, .pointer (some ⟨g3328, 0, none⟩)), (8, .int .i64 x5935), (9, .int .i64 x5936), (10, .int .i64 x5937), (13, .pointer (some ⟨g6556, 0, none⟩)), (74, .bool (false))] (by simp only [h6562, Bool.not_true, Bool.not_false]) ?_
                      refine EL.quick 1 [1, 5, 6, 8, 9, 10, 74, 75] [(1, .slice (some ad6470) l6.length C8), (5, .int .i64 (IntKind.i64.wrap (Int.tmod a5 20))), (6, .pointer (some ⟨g3328, 0, none⟩)), (8, .int .i64 x5935), (9, .int .i64 x5936), (10, .int .i64 x5937), (74, .bool (false)), (75, .pointer (some ⟨g6556, 0, none⟩))] (by kernel_rfl) ?_
                      refine EL.of (EO.Y (YO.loadBox hS 0 rfl 21 0 1 (.int .i32 t6551.f0) 76 (by kernel_rfl) (by kernel_rfl) (by kernel_rfl) (by kernel_rfl)) ?_)
                      refine EL.quick 4 [1, 5, 6, 8, 9, 10, 75, 76, 77, 78, 79, 80] [(1, .slice (some ad6470) l6.length C8), (5, .int .i64 (IntKind.i64.wrap (Int.tmod a5 20))), (6, .pointer (some ⟨g3328, 0, none⟩)), (8, .int .i64 x5935), (9, .int .i64 x5936), (10, .int .i64 x5937), (75, .pointer (some ⟨g6556, 0, none⟩)), (76, .int .i32 t6551.f0), (77, .int .i64 (IntKind.i64.wrap t6551.f0)), (78, .int .i64 x5936), (79, .bool (!(decide ((IntKind.i64.wrap t6551.f0) = x5936)))), (80, .bool (!(decide ((IntKind.i64.wrap t6551.f0) = x5936))))] (by kernel_rfl) ?_
                      refine EL.done (by kernel_rfl) ?_
                      refine EQ.to ?_
                      refine EQ.keep [1, 5, 6, 8, 9, 10, 80] [(1, .slice (some ad6470) l6.length C8), (5, .int .i64 (IntKind.i64.wrap (Int.tmod a5 20))), (6, .pointer (some ⟨g3328, 0, none⟩)), (8, .int .i64 x5935), (9, .int .i64 x5936), (10, .int .i64 x5937), (80, .bool (!(decide ((IntKind.i64.wrap t6551.f0) = x5936))))] (by kernel_rfl) ?_
                      exact fun a ha => ⟨!(decide ((IntKind.i64.wrap t6551.f0) = x5936)), ha, (hS.re [2, 2, 2] [] rfl (sub_cons 0 rfl (sub_cons 1 rfl (sub_tail (sub_tail (sub_self)))))), H⟩
                    · rw [if_neg h6562] at H
                      refine EL.keep [1, 5, 6, 8, 9, 10, 13, 74] [(1, .slice (some ad6470) l6.length C8), (5, .int .i64 (IntKind.i64.wrap (Int.tmod a5 20))), (6, .pointer (some ⟨g3328, 0, none⟩)), (8, .int .i64 x5935), (9, .int .i64 x5936), (10, .int .i64 x5937), (13, .pointer (some ⟨g6556, 0, none⟩)), (74, .bool (!(t6552)))] (by kernel_rfl) ?_
                      refine EL.as' [(1, .slice (some ad6470) l6.length C8), (5, .int .i64 (IntKind.i64.wrap (Int.tmod a5 20))), (6, .pointer (some ⟨g3328, 0, none⟩)), (8, .int .i64 x5935), (9, .int .i64 x5936), (10, .int .i64 x5937), (13, .pointer (some ⟨g6556, 0, none⟩)), (74, .bool (true))] (by simp only [(Bool.eq_false_iff.2 h6562), Bool.not_true, Bool.not_false]) ?_
                      refine EL.quick 6 [1, 5, 6, 8, 9, 10, 80] [(1, .slice (some ad6470) l6.length C8), (5, .int .i64 (IntKind.i64.wrap (Int.tmod a5 20))), (6, .pointer (some ⟨g3328, 0, none⟩)), (8, .int .i64 x5935), (9, .int .i64 x5936), (10, .int .i64 x5937), (80, .bool (true))] (by kernel_rfl) ?_
                      refine EL.done (by kernel_rfl) ?_
                      refine EQ.to ?_
                      refine EQ.keep [1, 5, 6, 8, 9, 10, 80] [(1, .slice (some ad6470) l6.length C8), (5, .int .i64 (IntKind.i64.wrap (Int.tmod a5 20))), (6, .pointer (some ⟨g3328, 0, none⟩)), (8, .int .i64 x5935), (9, .int .i64 x5936), (10, .int .i64 x5937), (80, .bool (true))] (by kernel_rfl) ?_
                      exact fun a ha => ⟨true, ha, (hS.re [2, 2, 2] [] rfl (sub_cons 0 rfl (sub_cons 1 rfl (sub_tail (sub_tail (sub_self)))))), H⟩
                  · obtain ⟨x6560, ha, hS, H⟩ := hI
                    rw [hj6561] at H
                    (try dsimp only at H)
                    refine EW.at ?_ a ha
                    clear ha a
                    refine EW.condP' (o := (.tmp 80)) (x := Cd4.r.r.r.r.r.r.r.l.r.l.l.r.l.l.r.r.l.r.r.l) (y := Cd4.r.r.r.r.r.r.r.l.r.l.l.r.l.l.r.r.l.r.r.r) (x6560) (by kernel_rfl) (by kernel_rfl) (fun h6563 => ?_) (fun h6563 => ?_)
                    · rw [if_pos h6563] at H
                      refine EW.seq (x := Cd4.r.r.r.r.r.r.r.l.r.l.l.r.l.l.r.r.l.r.r.l.l) (y := Cd4.r.r.r.r.r.r.r.l.r.l.l.r.l.l.r.r.l.r.r.l.r) (by kernel_rfl) ?_
                      refine EW.region (id := 23) (ops := Cd4.r.r.r.r.r.r.r.l.r.l.l.r.l.l.r.r.l.r.r.l.l.ops) (by kernel_rfl) ?_
                      refine EL.quick 1 [4] [(4, .bool (false))] (by kernel_rfl) ?_
                      refine EL.done (by kernel_rfl) ?_
                      refine EQ.code ?_
                      refine EW.ret (by kernel_rfl) ?_
                      refine EQ.ret ?_
                      refine EQ.ret ?_
                      refine EQ.ret ?_
                      refine EQ.ret ?_
                      refine EQ.ret ?_
                      refine EQ.ret ?_
                      obtain rfl := Option.some.inj H
                      exact EQ.leave (.bool (false)) (by kernel_rfl) ⟨_, rfl, rfl, (hS.re [] [0, 0, 0] rfl (sub_tail (sub_self)))⟩
                    · rw [if_neg h6563] at H
                      refine EW.skip (by kernel_rfl) ?_
                      refine EQ.code ?_
                      refine EW.region (id := 24) (ops := Cd4.r.r.r.r.r.r.r.l.r.l.l.r.l.l.r.r.r.ops) (by kernel_rfl) ?_
                      refine EL.quick 3 [1, 5, 6, 8, 9, 10] [(1, .slice (some ad6470) l6.length C8), (5, .int .i64 (IntKind.i64.wrap (Int.tmod a5 20))), (6, .pointer (some ⟨g3328, 0, none⟩)), (8, .int .i64 x5935), (9, .int .i64 (IntKind.i64.wrap (x5936 - 1))), (10, .int .i64 x5937)] (by kernel_rfl) ?_
                      refine EL.done (by kernel_rfl) ?_
                      refine EQ.pop ?_
                      refine EQ.to ?_
                      refine EQ.keep [1, 5, 6, 8, 9, 10] [(1, .slice (some ad6470) l6.length C8), (5, .int .i64 (IntKind.i64.wrap (Int.tmod a5 20))), (6, .pointer (some ⟨g3328, 0, none⟩)), (8, .int .i64 x5935), (9, .int .i64 (IntKind.i64.wrap (x5936 - 1))), (10, .int .i64 x5937)] (by kernel_rfl) ?_
                      exact fun a ha => ⟨t6549, t6550, x5935, IntKind.i64.wrap (x5936 - 1), ha, (hS.re [2, 2] [2] rfl (sub_cons 1 rfl (sub_tail (sub_tail (sub_self))))), H⟩
              · obtain ⟨x6460, x6461, x6462, x6463, ha, hS, H⟩ := hI
                rw [hj6464] at H
                (try dsimp only at H)
                refine EW.at ?_ a ha
                clear ha a
                refine EW.region (id := 15) (ops := Cd4.r.r.r.r.r.r.r.l.r.l.l.r.r.ops) (by kernel_rfl) ?_
                refine EL.quick 3 [1, 5, 6, 8, 9, 10] [(1, .slice A7 l6.length C8), (5, .int .i64 (IntKind.i64.wrap (Int.tmod a5 20))), (6, .pointer (some ⟨g3328, 0, none⟩)), (8, .int .i64 x6462), (9, .int .i64 x6463), (10, .int .i64 (IntKind.i64.wrap (x5937 + 1)))] (by kernel_rfl) ?_
                refine EL.done (by kernel_rfl) ?_
                refine EQ.to ?_
                refine EQ.keep [1, 5, 6, 8, 9, 10] [(1, .slice A7 l6.length C8), (5, .int .i64 (IntKind.i64.wrap (Int.tmod a5 20))), (6, .pointer (some ⟨g3328, 0, none⟩)), (8, .int .i64 x6462), (9, .int .i64 x6463), (10, .int .i64 (IntKind.i64.wrap (x5937 + 1)))] (by kernel_rfl) ?_
                exact fun a ha => ⟨n, Nat.lt_succ_self n, x6460, x6461, x6462, x6463, IntKind.i64.wrap (x5937 + 1), ha, (hS.re [1, 1] [] rfl (sub_cons 0 rfl (sub_tail (sub_self)))), H⟩
            · rw [if_neg h6257] at H
              refine EW.exit (id := 2) (by kernel_rfl) ?_
              refine EQ.exitCode ?_
              refine EQ.exitTo ?_
              refine EQ.exitHere ?_
              refine EQ.to ?_
              refine EQ.keep [6] [(6, .pointer (some ⟨g3328, 0, none⟩))] (by kernel_rfl) ?_
              exact fun a ha => ⟨x5933, x5934, ha, (hS.re [1, 1] [] rfl (sub_cons 0 rfl (sub_tail (sub_self)))), H⟩
        · obtain ⟨x5615, x5616, ha, hS, H⟩ := hI
          rw [hj5617] at H
          (try dsimp only at H)
          refine EW.at ?_ a ha
          clear ha a
          refine EW.seq (x := Cd4.r.r.r.r.r.r.r.r.l) (y := Cd4.r.r.r.r.r.r.r.r.r) (by kernel_rfl) ?_
          refine EW.region (id := 25) (ops := Cd4.r.r.r.r.r.r.r.r.l.ops) (by kernel_rfl) ?_
          refine EL.quick 1 [6, 84] [(6, .pointer (some ⟨g3328, 0, none⟩)), (84, .pointer (some ⟨g3328, 0, none⟩))] (by kernel_rfl) ?_
          obtain ⟨t6572, t6573, t6574, t6575, hc6578, H⟩ := b4_out H
          refine EL.of (EO.callD 21 [.pointer (some ⟨g3328, 0, none⟩)] _ 85 (by kernel_rfl) (by kernel_rfl) (by kernel_rfl) (ring_Ring_Pop.calls hc6578 hS) ?_)
          rintro v w ⟨A6576, C6577, rfl, hS⟩
          refine EL.quick 3 [6, 86, 87] [(6, .pointer (some ⟨g3328, 0, none⟩)), (86, .agg #[.int .i32 t6574.f0, .int .i64 t6574.f1, .int .i64 t6574.f2, .slice A6576 t6574.f3.length C6577, .int .i32 t6574.f4.f0, .int .i32 t6574.f4.f1, .int .i32 t6574.f4.f2, .int .i32 t6574.f4.f3, .int .i64 t6574.f5, .int .i64 t6574.f6, .int .u32 t6574.f7, .int .i64 t6574.f8]), (87, .bool (t6575))] (by kernel_rfl) ?_
          refine EL.of (EO.alloc hS 37 (.agg #[.int .i32 0, .int .i64 0, .int .i64 0, .slice none ([] : List Int).length 0, .int .i32 0, .int .i32 0, .int .i32 0, .int .i32 0, .int .i64 0, .int .i64 0, .int .u32 0, .int .i64 0]) [.int .i32 0, .int .i64 0, .int .i64 0, .slice none ([] : List Int).length 0, .int .i32 0, .int .i32 0, .int .i32 0, .int .i32 0, .int .i64 0, .int .i64 0, .int .u32 0, .int .i64 0] 15 (by kernel_rfl) (by kernel_rfl) (by kernel_rfl) (by kernel_rfl) (by first | rfl | kernel_rfl) ?_)
          intro g6579 w hS
          refine EL.of (EO.storeBox (os' := Ass.box 37 g6579 [.int .i32 t6574.f0, .int .i64 t6574.f1, .int .i64 t6574.f2, .slice A6576 t6574.f3.length C6577, .int .i32 t6574.f4.f0, .int .i32 t6574.f4.f1, .int .i32 t6574.f4.f2, .int .i32 t6574.f4.f3, .int .i64 t6574.f5, .int .i64 t6574.f6, .int .u32 t6574.f7, .int .i64 t6574.f8] :: Ass.box 90 g3328 [.slice A3590 x3589.length C3591, .int .i64 t6572, .int .i64 t6573] :: Ass.own 37 kS37 A3590 C3591 x3589 :: os) hS 0 rfl 37 0 (.agg #[.int .i32 t6574.f0, .int .i64 t6574.f1, .int .i64 t6574.f2, .slice A6576 t6574.f3.length C6577, .int .i32 t6574.f4.f0, .int .i32 t6574.f4.f1, .int .i32 t6574.f4.f2, .int .i32 t6574.f4.f3, .int .i64 t6574.f5, .int .i64 t6574.f6, .int .u32 t6574.f7, .int .i64 t6574.f8]) [.int .i32 t6574.f0, .int .i64 t6574.f1, .int .i64 t6574.f2, .slice A6576 t6574.f3.length C6577, .int .i32 t6574.f4.f0, .int .i32 t6574.f4.f1, .int .i32 t6574.f4.f2, .int .i32 t6574.f4.f3, .int .i64 t6574.f5, .int .i64 t6574.f6, .int .u32 t6574.f7, .int .i64 t6574.f8] (by kernel_rfl) (by kernel_rfl) (by kernel_rfl) (by kernel_rfl) (by kernel_rfl) (by kernel_rfl) rfl rfl ?_)
          intro w hS
          refine EL.quick 1 [6, 16] [(6, .pointer (some ⟨g3328, 0, none⟩)), (16, .bool (t6575))] (by kernel_rfl) ?_
          refine EL.done (by kernel_rfl) ?_
          refine EQ.code ?_
          refine EW.seq (x := Cd4.r.r.r.r.r.r.r.r.r.l) (y := Cd4.r.r.r.r.r.r.r.r.r.r) (by kernel_rfl) ?_
          refine EW.region (id := 26) (ops := Cd4.r.r.r.r.r.r.r.r.r.l.ops) (by kernel_rfl) ?_
          refine EL.quick 1 [6, 16, 89] [(6, .pointer (some ⟨g3328, 0, none⟩)), (16, .bool (t6575)), (89, .pointer (some ⟨g3328, 0, none⟩))] (by kernel_rfl) ?_
          have hS : St B _ (Ass.box 90 g3328 [.slice A3590 x3589.length C3591, .int .i64 t6572, .int .i64 t6573] :: Ass.own 37 kS37 A3590 C3591 x3589 :: Ass.box 37 g6579 [.int .i32 t6574.f0, .int .i64 t6574.f1, .int .i64 t6574.f2, .slice A6576 t6574.f3.length C6577, .int .i32 t6574.f4.f0, .int .i32 t6574.f4.f1, .int .i32 t6574.f4.f2, .int .i32 t6574.f4.f3, .int .i64 t6574.f5, .int .i64 t6574.f6, .int .u32 t6574.f7, .int .i64 t6574.f8] :: os) (Ro.sl (Kd.int .i32) A6576 C6577 t6574.f3 :: Ro.sl Kd.bool A7 C8 l6 :: rs) := hS.re [2, 2] [] rfl sub_self
          obtain ⟨t6588, t6589, t6590, t6591, hc6594, H⟩ := b4_out H
          refine EL.of (EO.callD 24 [.pointer (some ⟨g3328, 0, none⟩)] _ 90 (by kernel_rfl) (by kernel_rfl) (by kernel_rfl) (ring_Ring_Steal.calls hc6594 hS) ?_)
          rintro v w ⟨A6592, C6593, rfl, hS⟩
          refine EL.quick 3 [6, 16, 91, 92] [(6, .pointer (some ⟨g3328, 0, none⟩)), (16, .bool (t6575)), (91, .agg #[.int .i32 t6590.f0, .int .i64 t6590.f1, .int .i64 t6590.f2, .slice A6592 t6590.f3.length C6593, .int .i32 t6590.f4.f0, .int .i32 t6590.f4.f1, .int .i32 t6590.f4.f2, .int .i32 t6590.f4.f3, .int .i64 t6590.f5, .int .i64 t6590.f6, .int .u32 t6590.f7, .int .i64 t6590.f8]), (92, .bool (t6591))] (by kernel_rfl) ?_
          refine EL.of (EO.alloc hS 37 (.agg #[.int .i32 0, .int .i64 0, .int .i64 0, .slice none ([] : List Int).length 0, .int .i32 0, .int .i32 0, .int .i32 0, .int .i32 0, .int .i64 0, .int .i64 0, .int .u32 0, .int .i64 0]) [.int .i32 0, .int .i64 0, .int .i64 0, .slice none ([] : List Int).length 0, .int .i32 0, .int .i32 0, .int .i32 0, .int .i32 0, .int .i64 0, .int .i64 0, .int .u32 0, .int .i64 0] 17 (by kernel_rfl) (by kernel_rfl) (by kernel_rfl) (by kernel_rfl) (by first | rfl | kernel_rfl) ?_)
          intro g6595 w hS
          refine EL.of (EO.storeBox (os' := Ass.box 37 g6595 [.int .i32 t6590.f0, .int .i64 t6590.f1, .int .i64 t6590.f2, .slice A6592 t6590.f3.length C6593, .int .i32 t6590.f4.f0, .int .i32 t6590.f4.f1, .int .i32 t6590.f4.f2, .int .i32 t6590.f4.f3, .int .i64 t6590.f5, .int .i64 t6590.f6, .int .u32 t6590.f7, .int .i64 t6590.f8] :: Ass.box 90 g3328 [.slice A3590 x3589.length C3591, .int .i64 t6588, .int .i64 t6589] :: Ass.own 37 kS37 A3590 C3591 x3589 :: Ass.box 37 g6579 [.int .i32 t6574.f0, .int .i64 t6574.f1, .int .i64 t6574.f2, .slice A6576 t6574.f3.length C6577, .int .i32 t6574.f4.f0, .int .i32 t6574.f4.f1, .int .i32 t6574.f4.f2, .int .i32 t6574.f4.f3, .int .i64 t6574.f5, .int .i64 t6574.f6, .int .u32 t6574.f7, .int .i64 t6574.f8] :: os) hS 0 rfl 37 0 (.agg #[.int .i32 t6590.f0, .int .i64 t6590.f1, .int .i64 t6590.f2, .slice A6592 t6590.f3.length C6593, .int .i32 t6590.f4.f0, .int .i32 t6590.f4.f1, .int .i32 t6590.f4.f2, .int .i32 t6590.f4.f3, .int .i64 t6590.f5, .int .i64 t6590.f6, .int .u32 t6590.f7, .int .i64 t6590.f8]) [.int .i32 t6590.f0, .int .i64 t6590.f1, .int .i64 t6590.f2, .slice A6592 t6590.f3.length C6593, .int .i32 t6590.f4.f0, .int .i32 t6590.f4.f1, .int .i32 t6590.f4.f2, .int .i32 t6590.f4.f3, .int .i64 t6590.f5, .int .i64 t6590.f6, .int .u32 t6590.f7, .int .i64 t6590.f8] (by kernel_rfl) (by kernel_rfl) (by kernel_rfl) (by kernel_rfl) (by kernel_rfl) (by kernel_rfl) rfl rfl ?_)
          intro w hS
          refine EL.quick 1 [6, 16, 18] [(6, .pointer (some ⟨g3328, 0, none⟩)), (16, .bool (t6575)), (18, .bool (t6591))] (by kernel_rfl) ?_
          refine EL.done (by kernel_rfl) ?_
          refine EQ.code ?_
          refine EW.seq (x := Cd4.r.r.r.r.r.r.r.r.r.r.l) (y := Cd4.r.r.r.r.r.r.r.r.r.r.r) (by kernel_rfl) ?_
          refine EW.region (id := 27) (ops := Cd4.r.r.r.r.r.r.r.r.r.r.l.ops) (by kernel_rfl) ?_
          refine EL.quick 3 [6, 18, 95] [(6, .pointer (some ⟨g3328, 0, none⟩)), (18, .bool (t6591)), (95, .bool (!(t6575)))] (by kernel_rfl) ?_
          by_cases h6596 : t6575 = true
          · rw [if_pos h6596] at H
            refine EL.keep [6, 18, 95] [(6, .pointer (some ⟨g3328, 0, none⟩)), (18, .bool (t6591)), (95, .bool (!(t6575)))] (by kernel_rfl) ?_
            refine EL.as' [(6, .pointer (some ⟨g3328, 0, none⟩)), (18, .bool (t6591)), (95, .bool (false))] (by simp only [h6596, Bool.not_true, Bool.not_false]) ?_
            refine EL.quick 9 [4] [(4, .bool (false))] (by kernel_rfl) ?_
            refine EL.done (by kernel_rfl) ?_
            refine EQ.code ?_
            refine EW.ret (by kernel_rfl) ?_
            obtain rfl := Option.some.inj H
            exact EQ.leave (.bool (false)) (by kernel_rfl) ⟨_, rfl, rfl, (hS.re [] [0, 0, 0, 0] rfl (sub_tail (sub_tail (sub_self))))⟩
          · rw [if_neg h6596] at H
            refine EL.keep [6, 18, 95] [(6, .pointer (some ⟨g3328, 0, none⟩)), (18, .bool (t6591)), (95, .bool (!(t6575)))] (by kernel_rfl) ?_
            refine EL.as' [(6, .pointer (some ⟨g3328, 0, none⟩)), (18, .bool (t6591)), (95, .bool (true))] (by simp only [(Bool.eq_false_iff.2 h6596), Bool.not_true, Bool.not_false]) ?_
            refine EL.quick 4 [6, 99] [(6, .pointer (some ⟨g3328, 0, none⟩)), (99, .bool (!(t6591)))] (by kernel_rfl) ?_
            by_cases h6597 : t6591 = true
            · rw [if_pos h6597] at H
              refine EL.keep [6, 99] [(6, .pointer (some ⟨g3328, 0, none⟩)), (99, .bool (!(t6591)))] (by kernel_rfl) ?_
              refine EL.as' [(6, .pointer (some ⟨g3328, 0, none⟩)), (99, .bool (false))] (by simp only [h6597, Bool.not_true, Bool.not_false]) ?_
              refine EL.quick 5 [4] [(4, .bool (false))] (by kernel_rfl) ?_
              refine EL.done (by kernel_rfl) ?_
              refine EQ.code ?_
              refine EW.ret (by kernel_rfl) ?_
              obtain rfl := Option.some.inj H
              exact EQ.leave (.bool (false)) (by kernel_rfl) ⟨_, rfl, rfl, (hS.re [] [0, 0, 0, 0] rfl (sub_tail (sub_tail (sub_self))))⟩
            · rw [if_neg h6597] at H
              refine EL.keep [6, 99] [(6, .pointer (some ⟨g3328, 0, none⟩)), (99, .bool (!(t6591)))] (by kernel_rfl) ?_
              refine EL.as' [(6, .pointer (some ⟨g3328, 0, none⟩)), (99, .bool (true))] (by simp only [(Bool.eq_false_iff.2 h6597), Bool.not_true, Bool.not_false]) ?_
              refine EL.quick 1 [99, 100] [(99, .bool (true)), (100, .pointer (some ⟨g3328, 0, none⟩))] (by kernel_rfl) ?_
              have hS : St B _ (Ass.box 90 g3328 [.slice A3590 x3589.length C3591, .int .i64 t6588, .int .i64 t6589] :: Ass.own 37 kS37 A3590 C3591 x3589 :: Ass.box 37 g6595 [.int .i32 t6590.f0, .int .i64 t6590.f1, .int .i64 t6590.f2, .slice A6592 t6590.f3.length C6593, .int .i32 t6590.f4.f0, .int .i32 t6590.f4.f1, .int .i32 t6590.f4.f2, .int .i32 t6590.f4.f3, .int .i64 t6590.f5, .int .i64 t6590.f6, .int .u32 t6590.f7, .int .i64 t6590.f8] :: Ass.box 37 g6579 [.int .i32 t6574.f0, .int .i64 t6574.f1, .int .i64 t6574.f2, .slice A6576 t6574.f3.length C6577, .int .i32 t6574.f4.f0, .int .i32 t6574.f4.f1, .int .i32 t6574.f4.f2, .int .i32 t6574.f4.f3, .int .i64 t6574.f5, .int .i64 t6574.f6, .int .u32 t6574.f7, .int .i64 t6574.f8] :: os) (Ro.sl (Kd.int .i32) A6592 C6593 t6590.f3 :: Ro.sl (Kd.int .i32) A6576 C6577 t6574.f3 :: Ro.sl Kd.bool A7 C8 l6 :: rs) := hS.re [2, 2] [] rfl sub_self
              obtain ⟨t6598, t6599, t6600, hc6601, H⟩ := b3_out H
              refine EL.of (EO.callD 29 [.pointer (some ⟨g3328, 0, none⟩)] _ 101 (by kernel_rfl) (by kernel_rfl) (by kernel_rfl) (ring_Ring_Len.calls hc6601 hS) ?_)
              rintro v w ⟨rfl, hS⟩
              refine EL.quick 3 [4] [(4, .bool (decide (t6600 = 0)))] (by kernel_rfl) ?_
              refine EL.done (by kernel_rfl) ?_
              refine EQ.code ?_
              refine EW.ret (by kernel_rfl) ?_
              obtain rfl := Option.some.inj H
              exact EQ.leave (.bool (decide (t6600 = 0))) (by kernel_rfl) ⟨_, rfl, rfl, (hS.re [] [0, 0, 0, 0] rfl (sub_tail (sub_tail (sub_self))))⟩
  · rw [if_neg h3315] at H
    refine EW.seq (x := Cd4.r.l.r.l.l) (y := Cd4.r.l.r.l.r) (by kernel_rfl) ?_
    refine EW.region (id := 2) (ops := Cd4.r.l.r.l.l.ops) (by kernel_rfl) ?_
    refine EL.quick 1 [4] [(4, .bool (false))] (by kernel_rfl) ?_
    refine EL.done (by kernel_rfl) ?_
    refine EQ.code ?_
    refine EW.ret (by kernel_rfl) ?_
    refine EQ.ret ?_
    obtain rfl := Option.some.inj H
    exact EQ.leave (.bool (false)) (by kernel_rfl) ⟨_, rfl, rfl, (hS.re [] [] rfl (sub_self))⟩

def confidantlaw15_RingEnds.Pure : Prop := ∀ (a5 : Int) (l6 : List Bool), (Lit.int .u8 a5).wf = true → l6.length * 1 ≤ 140737488351232 → (∀ x ∈ l6, True) → ∃ K, confidantlaw15_RingEnds.f K a5 l6 = some true

structure S47 where
  f0 : Int
  f1 : Int
deriving DecidableEq
def zS47 : S47 := ⟨0, 0⟩
def kS47 : Kd S47 := Kd.iso (Kd.prod (Kd.int .i64) (Kd.prod (Kd.int .i64) Kd.unit)) (fun s => (s.f0, s.f1, ()))
def encS47 (s : S47) : List Value := [.int .i64 s.f0, .int .i64 s.f1]
theorem encS47_of (w : World) (G : Bl) (vs : List Value) (x : S47) (h : kS47.rep w G vs x) : vs = encS47 x := by
  obtain ⟨_, _, rfl, h0, ⟨_, _, rfl, h1, hu⟩⟩ := h
  have h0 := encI_of _ _ _ _ h0
  have h1 := encI_of _ _ _ _ h1
  have hu : _ = [] := hu
  subst hu
  subst h0
  subst h1
  rfl

noncomputable def Cd5 : Code := bodyOf Try.f5

/-! ### confidant/confidantlaw15.RingRooms: function 5 -/
def confidantlaw15_RingRooms.l2 (K : Nat) (l11528 : List S47) (x15357 : Int) (j21749 : (List S37) → Int → Int → Option Bool) : Nat → (List S37) → Int → Int → Int → Option Bool
  | 0, _, _, _, _ => none
  | n + 1, x22490, x22493, x22494, x22495 => if x22495 < 200 then (b4 (ring_Ring_Steal.f K x22490 x22493 x22494) fun (t22907 : Int) (t22908 : Int) (t22909 : S37) (t22910 : Bool) => (lt (fun (x22987 : List S37) (x22990 : Int) (x22991 : Int) (x22992 : Bool) => (if x22992 = true then (some false) else (confidantlaw15_RingRooms.l2 K l11528 x15357 j21749 n x22987 x22990 x22991 (IntKind.i64.wrap (x22495 + 1))))) fun j22993 => (if t22910 = true then (if x22495 < ((l11528.getD x15357.toNat zS47).f1) then (if (IntKind.i64.wrap t22909.f0) = x22495 then (b4 (ring_Ring_Push.f K x22490 t22907 t22908 (IntKind.i32.wrap (IntKind.i64.wrap (1000 + x22495))) 0 0 ([] : List Int) 0 0 0 0 0 0 0 0) fun (t22997 : List S37) (t22998 : Int) (t22999 : Int) (t23000 : Bool) => (if t23000 = true then (b4 (ring_Ring_Push.f K t22997 t22998 t22999 0 0 0 ([] : List Int) 0 0 0 0 0 0 0 0) fun (t23005 : List S37) (t23006 : Int) (t23007 : Int) (t23008 : Bool) => (j22993 t23005 t23006 t23007 t23008)) else (j22993 t22997 t22998 t22999 true))) else (j22993 x22490 t22907 t22908 true)) else (b4 (ring_Ring_Push.f K x22490 t22907 t22908 (IntKind.i32.wrap (IntKind.i64.wrap (1000 + x22495))) 0 0 ([] : List Int) 0 0 0 0 0 0 0 0) fun (t23012 : List S37) (t23013 : Int) (t23014 : Int) (t23015 : Bool) => (if t23015 = true then (b4 (ring_Ring_Push.f K t23012 t23013 t23014 0 0 0 ([] : List Int) 0 0 0 0 0 0 0 0) fun (t23020 : List S37) (t23021 : Int) (t23022 : Int) (t23023 : Bool) => (j22993 t23020 t23021 t23022 t23023)) else (j22993 t23012 t23013 t23014 true)))) else (j22993 x22490 t22907 t22908 true)))) else (j21749 x22490 x22493 x22494)
def confidantlaw15_RingRooms.l1 (K : Nat) (l11528 : List S47) (x15357 : Int) (j22021 : (List S37) → Int → Int → Option Bool) : Nat → (List S37) → Int → Int → Int → Option Bool
  | 0, _, _, _, _ => none
  | n + 1, x22064, x22067, x22068, x22069 => if x22069 < 70 then (b4 (ring_Ring_Push.f K x22064 x22067 x22068 (IntKind.i32.wrap x22069) 0 0 ([] : List Int) 0 0 0 0 0 0 0 0) fun (t22138 : List S37) (t22139 : Int) (t22140 : Int) (t22141 : Bool) => (if (t22141 == (decide (x22069 < ((l11528.getD x15357.toNat zS47).f1)))) = true then (confidantlaw15_RingRooms.l1 K l11528 x15357 j22021 n t22138 t22139 t22140 (IntKind.i64.wrap (x22069 + 1))) else (some false))) else (j22021 x22064 x22067 x22068)
def confidantlaw15_RingRooms.l0 (K : Nat) (l11528 : List S47) : Nat → Int → Option Bool
  | 0, _ => none
  | n + 1, x15357 => if x15357 < (l11528.length : Int) then (lt (fun (x21744 : List S37) (x21747 : Int) (x21748 : Int) => (confidantlaw15_RingRooms.l0 K l11528 n (IntKind.i64.wrap (x15357 + 1)))) fun j21749 => (if 0 ≤ x15357 then (b3 (ring_New.f K ((l11528.getD x15357.toNat zS47).f0)) fun (t21761 : List S37) (t21762 : Int) (t21763 : Int) => (lt (fun (x22016 : List S37) (x22019 : Int) (x22020 : Int) => (lt (fun (x22206 : Int) (x22207 : Int) (x22208 : Bool) => (if x22208 = true then (some false) else (confidantlaw15_RingRooms.l2 K l11528 x15357 j21749 K x22016 x22206 x22207 0))) fun j22209 => (b3 (ring_Ring_Len.f K x22016 x22019 x22020) fun (t22210 : Int) (t22211 : Int) (t22212 : Int) => (if t22212 = ((l11528.getD x15357.toNat zS47).f1) then (b3 (ring_Ring_Room.f K x22016 t22210 t22211) fun (t22215 : Int) (t22216 : Int) (t22217 : Int) => (j22209 t22215 t22216 (!(decide (t22217 = ((l11528.getD x15357.toNat zS47).f1)))))) else (j22209 t22210 t22211 true))))) fun j22021 => (confidantlaw15_RingRooms.l1 K l11528 x15357 j22021 K t21761 t21762 t21763 0))) else none)) else (some true)
def confidantlaw15_RingRooms.f (K : Nat) (a3 : Int) (a4 : Int) : Option Bool := b1 (confidantlaw15_known.f K) fun (t11522 : Bool) => (if t11522 = true then (lt ([(⟨a3, mn (mx a3 1) 64⟩ : S47), (⟨IntKind.i64.wrap ((IntKind.i64.wrap (Int.tmod a4 70)) + 1), mn (IntKind.i64.wrap ((IntKind.i64.wrap (Int.tmod a4 70)) + 1)) 64⟩ : S47)] : List S47) fun l11528 => (confidantlaw15_RingRooms.l0 K l11528 K 0)) else (some false))
set_option maxRecDepth 100000 in
theorem confidantlaw15_RingRooms.calls {K : Nat} {a3 : Int} {a4 : Int} {x11514 : Bool} {B w : World} {os : List Ass} {rs : List Ro} (H : confidantlaw15_RingRooms.f K a3 a4 = some x11514) (hS : St B w (os) (rs)) :
    Calls Try.prog 5 [.int .i64 a3, .int .u8 a4].toArray w (fun en w' => ∃ v, en = .returned v ∧ v = .bool (x11514) ∧ St B w' (os) (rs)) := by
  unfold confidantlaw15_RingRooms.f at H
  refine calls_of_EW (args := [.int .i64 a3, .int .u8 a4]) (c := Cd5) 104 Try.func5 (by kernel_rfl) (by kernel_rfl) (by kernel_rfl) ?_
  refine EW.seq (x := Cd5.l) (y := Cd5.r) (by kernel_rfl) ?_
  refine EW.region (id := 0) (ops := Cd5.l.ops) (by kernel_rfl) ?_
  refine EL.quick 1 [0, 1] [(0, .int .i64 a3), (1, .int .u8 a4)] (by kernel_rfl) ?_
  refine EL.done (by kernel_rfl) ?_
  refine EQ.code ?_
  refine EW.seq (x := Cd5.r.l) (y := Cd5.r.r) (by kernel_rfl) ?_
  refine EW.seq (x := Cd5.r.l.l) (y := Cd5.r.l.r) (by kernel_rfl) ?_
  refine EW.region (id := 1) (ops := Cd5.r.l.l.ops) (by kernel_rfl) ?_
  obtain ⟨t11522, hc11523, H⟩ := b1_out H
  refine EL.of (EO.callD 15 [] _ 14 (by kernel_rfl) (by kernel_rfl) (by kernel_rfl) (confidantlaw15_known.calls hc11523 hS) ?_)
  rintro v w ⟨rfl, hS⟩
  refine EL.quick 1 [0, 1, 15] [(0, .int .i64 a3), (1, .int .u8 a4), (15, .bool (!(t11522)))] (by kernel_rfl) ?_
  refine EL.done (by kernel_rfl) ?_
  refine EQ.code ?_
  refine EW.condQ (b := !(t11522)) (o := (.tmp 15)) (x := Cd5.r.l.r.l) (y := Cd5.r.l.r.r) (t11522 = true) (false) (by kernel_rfl) (by kernel_rfl) ⟨fun h => (by rw [h] <;> rfl), fun h => (by rw [Bool.eq_false_iff.2 h] <;> rfl)⟩ (fun h11524 => ?_) (fun h11524 => ?_)
  · rw [if_pos h11524] at H
    refine EW.skip (by kernel_rfl) ?_
    refine EQ.code ?_
    refine EW.seq (x := Cd5.r.r.l) (y := Cd5.r.r.r) (by kernel_rfl) ?_
    refine EW.region (id := 3) (ops := Cd5.r.r.l.ops) (by kernel_rfl) ?_
    refine EL.quick 4 [0, 1, 5] [(0, .int .i64 a3), (1, .int .u8 a4), (5, .int .i64 (mn (mx a3 1) 64))] (by kernel_rfl) ?_
    refine EL.done (by kernel_rfl) ?_
    refine EQ.code ?_
    refine EW.seq (x := Cd5.r.r.r.l) (y := Cd5.r.r.r.r) (by kernel_rfl) ?_
    refine EW.region (id := 4) (ops := Cd5.r.r.r.l.ops) (by kernel_rfl) ?_
    refine EL.quick 5 [0, 5, 6] [(0, .int .i64 a3), (5, .int .i64 (mn (mx a3 1) 64)), (6, .int .i64 (IntKind.i64.wrap ((IntKind.i64.wrap (Int.tmod a4 70)) + 1)))] (by kernel_rfl) ?_
    refine EL.done (by kernel_rfl) ?_
    refine EQ.code ?_
    refine EW.seq (x := Cd5.r.r.r.r.l) (y := Cd5.r.r.r.r.r) (by kernel_rfl) ?_
    refine EW.seq (x := Cd5.r.r.r.r.l.l) (y := Cd5.r.r.r.r.l.r) (by kernel_rfl) ?_
    refine EW.region (id := 5) (ops := Cd5.r.r.r.r.l.l.ops) (by kernel_rfl) ?_
    refine EL.quick 7 [25, 29] [(25, .agg #[.int .i64 a3, .int .i64 (mn (mx a3 1) 64)]), (29, .agg #[.int .i64 (IntKind.i64.wrap ((IntKind.i64.wrap (Int.tmod a4 70)) + 1)), .int .i64 (mn (IntKind.i64.wrap ((IntKind.i64.wrap (Int.tmod a4 70)) + 1)) 64)])] (by kernel_rfl) ?_
    obtain ⟨l11528, hl11528, H⟩ := lt_out H
    refine EL.of (EO.lit hS kS47 47 48 2 #[(0, .agg #[.int .i64 a3, .int .i64 (mn (mx a3 1) 64)]), (1, .agg #[.int .i64 (IntKind.i64.wrap ((IntKind.i64.wrap (Int.tmod a4 70)) + 1)), .int .i64 (mn (IntKind.i64.wrap ((IntKind.i64.wrap (Int.tmod a4 70)) + 1)) 64)])] [.int .i64 a3, .int .i64 (mn (mx a3 1) 64), .int .i64 (IntKind.i64.wrap ((IntKind.i64.wrap (Int.tmod a4 70)) + 1)), .int .i64 (mn (IntKind.i64.wrap ((IntKind.i64.wrap (Int.tmod a4 70)) + 1)) 64)] l11528 30 (by kernel_rfl) (by kernel_rfl) (by kernel_rfl) (fun _ => (by kernel_rfl)) (by rw [hl11528]; rfl) (by kernel_rfl) (fun w G hr => (by rw [hl11528]; exact ⟨[.int .i64 a3, .int .i64 (mn (mx a3 1) 64)], [.int .i64 (IntKind.i64.wrap ((IntKind.i64.wrap (Int.tmod a4 70)) + 1)), .int .i64 (mn (IntKind.i64.wrap ((IntKind.i64.wrap (Int.tmod a4 70)) + 1)) 64)], rfl, ⟨[.int .i64 a3], [.int .i64 (mn (mx a3 1) 64)], rfl, rfl, ⟨[.int .i64 (mn (mx a3 1) 64)], [], rfl, rfl, rfl⟩⟩, ⟨[.int .i64 (IntKind.i64.wrap ((IntKind.i64.wrap (Int.tmod a4 70)) + 1)), .int .i64 (mn (IntKind.i64.wrap ((IntKind.i64.wrap (Int.tmod a4 70)) + 1)) 64)], [], rfl, ⟨[.int .i64 (IntKind.i64.wrap ((IntKind.i64.wrap (Int.tmod a4 70)) + 1))], [.int .i64 (mn (IntKind.i64.wrap ((IntKind.i64.wrap (Int.tmod a4 70)) + 1)) 64)], rfl, rfl, ⟨[.int .i64 (mn (IntKind.i64.wrap ((IntKind.i64.wrap (Int.tmod a4 70)) + 1)) 64)], [], rfl, rfl, rfl⟩⟩, rfl⟩⟩)) ?_)
    intro g11527 w hS
    refine EL.quick 2 [30, 31, 32] [(30, .slice (some ⟨g11527, 0, none⟩) l11528.length 2), (31, .int .i64 (l11528.length : Int)), (32, .int .i64 0)] (by kernel_rfl) ?_
    refine EL.done (by kernel_rfl) ?_
    refine EQ.code ?_
    refine EW.block (x := Cd5.r.r.r.r.l.r.l) (id := 0) (by kernel_rfl) ?_
    refine EW.loop (x := Cd5.r.r.r.r.l.r.l.l) (fun n a w => ∃ x15357 : Int, Sat 104 [(30, .slice (some ⟨g11527, 0, none⟩) l11528.length 2), (31, .int .i64 (l11528.length : Int)), (32, .int .i64 x15357)] a ∧ St B w (Ass.own 47 kS47 (some ⟨g11527, 0, none⟩) 2 l11528 :: os) (rs) ∧ confidantlaw15_RingRooms.l0 K l11528 n x15357 = some x11514) K (by kernel_rfl) ?_ (fun n a w hI => ?_)
    · refine EQ.keep [30, 31, 32] [(30, .slice (some ⟨g11527, 0, none⟩) l11528.length 2), (31, .int .i64 (l11528.length : Int)), (32, .int .i64 0)] (by kernel_rfl) ?_
      exact fun a ha => ⟨0, ha, (hS.re [0] [] rfl (sub_self)), H⟩
    · obtain ⟨x15357, ha, hS, H⟩ := hI
      obtain _ | n := n
      · simp [confidantlaw15_RingRooms.l0] at H
      rw [confidantlaw15_RingRooms.l0.eq_2] at H
      refine EW.at ?_ a ha
      clear ha a
      refine EW.seq (x := Cd5.r.r.r.r.l.r.l.l.l) (y := Cd5.r.r.r.r.l.r.l.l.r) (by kernel_rfl) ?_
      refine EW.region (id := 6) (ops := Cd5.r.r.r.r.l.r.l.l.l.ops) (by kernel_rfl) ?_
      refine EL.quick 1 [30, 31, 32, 33] [(30, .slice (some ⟨g11527, 0, none⟩) l11528.length 2), (31, .int .i64 (l11528.length : Int)), (32, .int .i64 x15357), (33, .bool (decide (x15357 < (l11528.length : Int))))] (by kernel_rfl) ?_
      refine EL.done (by kernel_rfl) ?_
      refine EQ.code ?_
      refine EW.seq (x := Cd5.r.r.r.r.l.r.l.l.r.l) (y := Cd5.r.r.r.r.l.r.l.l.r.r) (by kernel_rfl) ?_
      refine EW.condP (o := (.tmp 33)) (x := Cd5.r.r.r.r.l.r.l.l.r.l.l) (y := Cd5.r.r.r.r.l.r.l.l.r.l.r) (x15357 < (l11528.length : Int)) (by kernel_rfl) (by kernel_rfl) (fun h19193 => ?_) (fun h19193 => ?_)
      · rw [if_pos h19193] at H
        refine EW.skip (by kernel_rfl) ?_
        refine EQ.code ?_
        obtain ⟨j21749, hj21749, H⟩ := lt_out H
        refine EW.cut (x := Cd5.r.r.r.r.l.r.l.l.r.r.l) (y := Cd5.r.r.r.r.l.r.l.l.r.r.r) (fun a w => ∃ x21744 : List S37, ∃ x21747 : Int, ∃ x21748 : Int, ∃ g21742 : Nat, ∃ g21743 : Nat, ∃ A21745 : Option Addr, ∃ C21746 : Nat, Sat 104 [(30, .slice (some ⟨g11527, 0, none⟩) l11528.length 2), (31, .int .i64 (l11528.length : Int)), (32, .int .i64 x15357)] a ∧ St B w (Ass.box 90 g21742 [.slice A21745 x21744.length C21746, .int .i64 x21747, .int .i64 x21748] :: Ass.own 37 kS37 A21745 C21746 x21744 :: Ass.box 47 g21743 [.int .i64 ((l11528.getD x15357.toNat zS47).f0), .int .i64 ((l11528.getD x15357.toNat zS47).f1)] :: Ass.own 47 kS47 (some ⟨g11527, 0, none⟩) 2 l11528 :: os) (rs) ∧ j21749 x21744 x21747 x21748 = some x11514) (by kernel_rfl) ?_ (fun a w hI => ?_)
        · refine EW.block (x := Cd5.r.r.r.r.l.r.l.l.r.r.l.l) (id := 1) (by kernel_rfl) ?_
          refine EW.seq (x := Cd5.r.r.r.r.l.r.l.l.r.r.l.l.l) (y := Cd5.r.r.r.r.l.r.l.l.r.r.l.l.r) (by kernel_rfl) ?_
          refine EW.region (id := 7) (ops := Cd5.r.r.r.r.l.r.l.l.r.r.l.l.l.ops) (by kernel_rfl) ?_
          obtain ⟨h21752, H⟩ := ite_in H
          refine EL.of (EO.Y (YO.idx 48 2 ⟨g11527, 0, none⟩ l11528.length 2 .i64 x15357 34 (by kernel_rfl) (by kernel_rfl) (by kernel_rfl) (by kernel_rfl) h21752 h19193) ?_)
          refine EL.of (EO.Y (YO.loadEl hS kS47 ⟨g11527, 0, none⟩ 2 l11528 (Rd.own 0 47 rfl) zS47 encS47 encS47_of x15357 h21752 h19193 47 2 0 2 rfl (.agg #[.int .i64 ((l11528.getD x15357.toNat zS47).f0), .int .i64 ((l11528.getD x15357.toNat zS47).f1)]) 35 (by kernel_rfl) (by kernel_rfl) (by kernel_rfl) (by kernel_rfl)) ?_)
          refine EL.of (EO.alloc hS 47 (.agg #[.int .i64 0, .int .i64 0]) [.int .i64 0, .int .i64 0] 8 (by kernel_rfl) (by kernel_rfl) (by kernel_rfl) (by kernel_rfl) (by first | rfl | kernel_rfl) ?_)
          intro g21753 w hS
          refine EL.of (EO.storeBox (os' := Ass.box 47 g21753 [.int .i64 ((l11528.getD x15357.toNat zS47).f0), .int .i64 ((l11528.getD x15357.toNat zS47).f1)] :: Ass.own 47 kS47 (some ⟨g11527, 0, none⟩) 2 l11528 :: os) hS 0 rfl 47 0 (.agg #[.int .i64 ((l11528.getD x15357.toNat zS47).f0), .int .i64 ((l11528.getD x15357.toNat zS47).f1)]) [.int .i64 ((l11528.getD x15357.toNat zS47).f0), .int .i64 ((l11528.getD x15357.toNat zS47).f1)] (by kernel_rfl) (by kernel_rfl) (by kernel_rfl) (by kernel_rfl) (by kernel_rfl) (by kernel_rfl) rfl rfl ?_)
          intro w hS
          refine EL.done (by kernel_rfl) ?_
          refine EQ.code ?_
          refine EW.seq (x := Cd5.r.r.r.r.l.r.l.l.r.r.l.l.r.l) (y := Cd5.r.r.r.r.l.r.l.l.r.r.l.l.r.r) (by kernel_rfl) ?_
          refine EW.region (id := 8) (ops := Cd5.r.r.r.r.l.r.l.l.r.r.l.l.r.l.ops) (by kernel_rfl) ?_
          refine EL.quick 1 [8, 30, 31, 32, 36] [(8, .pointer (some ⟨g21753, 0, none⟩)), (30, .slice (some ⟨g11527, 0, none⟩) l11528.length 2), (31, .int .i64 (l11528.length : Int)), (32, .int .i64 x15357), (36, .pointer (some ⟨g21753, 0, none⟩))] (by kernel_rfl) ?_
          refine EL.of (EO.Y (YO.loadBox hS 0 rfl 3 0 1 (.int .i64 ((l11528.getD x15357.toNat zS47).f0)) 37 (by kernel_rfl) (by kernel_rfl) (by kernel_rfl) (by kernel_rfl)) ?_)
          obtain ⟨t21761, t21762, t21763, hc21767, H⟩ := b3_out H
          refine EL.of (EO.callD 16 [.int .i64 ((l11528.getD x15357.toNat zS47).f0)] _ 38 (by kernel_rfl) (by kernel_rfl) (by kernel_rfl) (ring_New.calls hc21767 hS) ?_)
          rintro v w ⟨g21764, A21765, C21766, rfl, hS⟩
          refine EL.quick 1 [8, 9, 30, 31, 32] [(8, .pointer (some ⟨g21753, 0, none⟩)), (9, .pointer (some ⟨g21764, 0, none⟩)), (30, .slice (some ⟨g11527, 0, none⟩) l11528.length 2), (31, .int .i64 (l11528.length : Int)), (32, .int .i64 x15357)] (by kernel_rfl) ?_
          refine EL.done (by kernel_rfl) ?_
          refine EQ.code ?_
          obtain ⟨j22021, hj22021, H⟩ := lt_out H
          refine EW.cut (x := Cd5.r.r.r.r.l.r.l.l.r.r.l.l.r.r.l) (y := Cd5.r.r.r.r.l.r.l.l.r.r.l.l.r.r.r) (fun a w => ∃ x22016 : List S37, ∃ x22019 : Int, ∃ x22020 : Int, ∃ A22017 : Option Addr, ∃ C22018 : Nat, Sat 104 [(8, .pointer (some ⟨g21753, 0, none⟩)), (9, .pointer (some ⟨g21764, 0, none⟩)), (30, .slice (some ⟨g11527, 0, none⟩) l11528.length 2), (31, .int .i64 (l11528.length : Int)), (32, .int .i64 x15357)] a ∧ St B w (Ass.box 90 g21764 [.slice A22017 x22016.length C22018, .int .i64 x22019, .int .i64 x22020] :: Ass.own 37 kS37 A22017 C22018 x22016 :: Ass.box 47 g21753 [.int .i64 ((l11528.getD x15357.toNat zS47).f0), .int .i64 ((l11528.getD x15357.toNat zS47).f1)] :: Ass.own 47 kS47 (some ⟨g11527, 0, none⟩) 2 l11528 :: os) (rs) ∧ j22021 x22016 x22019 x22020 = some x11514) (by kernel_rfl) ?_ (fun a w hI => ?_)
          · refine EW.seq (x := Cd5.r.r.r.r.l.r.l.l.r.r.l.l.r.r.l.l) (y := Cd5.r.r.r.r.l.r.l.l.r.r.l.l.r.r.l.r) (by kernel_rfl) ?_
            refine EW.region (id := 9) (ops := Cd5.r.r.r.r.l.r.l.l.r.r.l.l.r.r.l.l.ops) (by kernel_rfl) ?_
            refine EL.quick 1 [8, 9, 10, 30, 31, 32] [(8, .pointer (some ⟨g21753, 0, none⟩)), (9, .pointer (some ⟨g21764, 0, none⟩)), (10, .int .i64 0), (30, .slice (some ⟨g11527, 0, none⟩) l11528.length 2), (31, .int .i64 (l11528.length : Int)), (32, .int .i64 x15357)] (by kernel_rfl) ?_
            refine EL.done (by kernel_rfl) ?_
            refine EQ.code ?_
            refine EW.block (x := Cd5.r.r.r.r.l.r.l.l.r.r.l.l.r.r.l.r.l) (id := 2) (by kernel_rfl) ?_
            refine EW.loop (x := Cd5.r.r.r.r.l.r.l.l.r.r.l.l.r.r.l.r.l.l) (fun n a w => ∃ x22064 : List S37, ∃ x22067 : Int, ∃ x22068 : Int, ∃ x22069 : Int, ∃ A22065 : Option Addr, ∃ C22066 : Nat, Sat 104 [(8, .pointer (some ⟨g21753, 0, none⟩)), (9, .pointer (some ⟨g21764, 0, none⟩)), (10, .int .i64 x22069), (30, .slice (some ⟨g11527, 0, none⟩) l11528.length 2), (31, .int .i64 (l11528.length : Int)), (32, .int .i64 x15357)] a ∧ St B w (Ass.box 90 g21764 [.slice A22065 x22064.length C22066, .int .i64 x22067, .int .i64 x22068] :: Ass.own 37 kS37 A22065 C22066 x22064 :: Ass.box 47 g21753 [.int .i64 ((l11528.getD x15357.toNat zS47).f0), .int .i64 ((l11528.getD x15357.toNat zS47).f1)] :: Ass.own 47 kS47 (some ⟨g11527, 0, none⟩) 2 l11528 :: os) (rs) ∧ confidantlaw15_RingRooms.l1 K l11528 x15357 j22021 n x22064 x22067 x22068 x22069 = some x11514) K (by kernel_rfl) ?_ (fun n a w hI => ?_)
            · refine EQ.keep [8, 9, 10, 30, 31, 32] [(8, .pointer (some ⟨g21753, 0, none⟩)), (9, .pointer (some ⟨g21764, 0, none⟩)), (10, .int .i64 0), (30, .slice (some ⟨g11527, 0, none⟩) l11528.length 2), (31, .int .i64 (l11528.length : Int)), (32, .int .i64 x15357)] (by kernel_rfl) ?_
              exact fun a ha => ⟨t21761, t21762, t21763, 0, A21765, C21766, ha, (hS.re [3, 3, 3, 3] [] rfl (sub_self)), H⟩
            · obtain ⟨x22064, x22067, x22068, x22069, A22065, C22066, ha, hS, H⟩ := hI
              obtain _ | n := n
              · simp [confidantlaw15_RingRooms.l1] at H
              rw [confidantlaw15_RingRooms.l1.eq_2] at H
              refine EW.at ?_ a ha
              clear ha a
              refine EW.seq (x := Cd5.r.r.r.r.l.r.l.l.r.r.l.l.r.r.l.r.l.l.l) (y := Cd5.r.r.r.r.l.r.l.l.r.r.l.l.r.r.l.r.l.l.r) (by kernel_rfl) ?_
              refine EW.seq (x := Cd5.r.r.r.r.l.r.l.l.r.r.l.l.r.r.l.r.l.l.l.l) (y := Cd5.r.r.r.r.l.r.l.l.r.r.l.l.r.r.l.r.l.l.l.r) (by kernel_rfl) ?_
              refine EW.region (id := 10) (ops := Cd5.r.r.r.r.l.r.l.l.r.r.l.l.r.r.l.r.l.l.l.l.ops) (by kernel_rfl) ?_
              refine EL.quick 2 [8, 9, 10, 30, 31, 32, 40] [(8, .pointer (some ⟨g21753, 0, none⟩)), (9, .pointer (some ⟨g21764, 0, none⟩)), (10, .int .i64 x22069), (30, .slice (some ⟨g11527, 0, none⟩) l11528.length 2), (31, .int .i64 (l11528.length : Int)), (32, .int .i64 x15357), (40, .bool (decide (x22069 < 70)))] (by kernel_rfl) ?_
              refine EL.done (by kernel_rfl) ?_
              refine EQ.code ?_
              refine EW.condP (o := (.tmp 40)) (x := Cd5.r.r.r.r.l.r.l.l.r.r.l.l.r.r.l.r.l.l.l.r.l) (y := Cd5.r.r.r.r.l.r.l.l.r.r.l.l.r.r.l.r.l.l.l.r.r) (x22069 < 70) (by kernel_rfl) (by kernel_rfl) (fun h22115 => ?_) (fun h22115 => ?_)
              · rw [if_pos h22115] at H
                refine EW.skip (by kernel_rfl) ?_
                refine EQ.code ?_
                refine EW.seq (x := Cd5.r.r.r.r.l.r.l.l.r.r.l.l.r.r.l.r.l.l.r.l) (y := Cd5.r.r.r.r.l.r.l.l.r.r.l.l.r.r.l.r.l.l.r.r) (by kernel_rfl) ?_
                refine EW.block (x := Cd5.r.r.r.r.l.r.l.l.r.r.l.l.r.r.l.r.l.l.r.l.l) (id := 3) (by kernel_rfl) ?_
                refine EW.seq (x := Cd5.r.r.r.r.l.r.l.l.r.r.l.l.r.r.l.r.l.l.r.l.l.l) (y := Cd5.r.r.r.r.l.r.l.l.r.r.l.l.r.r.l.r.l.l.r.l.l.r) (by kernel_rfl) ?_
                obtain ⟨t22138, t22139, t22140, t22141, hc22144, H⟩ := b4_out H
                have hS := hS.drew
                refine EW.draw (B := B) (id := 12) (ops := Cd5.r.r.r.r.l.r.l.l.r.r.l.l.r.r.l.r.l.l.r.l.l.l.ops) [Ass.box 47 g21753 [.int .i64 ((l11528.getD x15357.toNat zS47).f0), .int .i64 ((l11528.getD x15357.toNat zS47).f1)], Ass.own 47 kS47 (some ⟨g11527, 0, none⟩) 2 l11528] [] (by kernel_rfl) (by kernel_rfl) ?_
                have hN : Region.noSelect Cd5.r.r.r.r.l.r.l.l.r.r.l.l.r.r.l.r.l.l.r.l.l.l.ops = true := (by kernel_rfl)
                have hF : freeAll Cd5.r.r.r.r.l.r.l.l.r.r.l.l.r.r.l.r.l.l.r.l.l.l.ops = true := (by kernel_rfl)
                have hC : Core B [Ass.box 47 g21753 [.int .i64 ((l11528.getD x15357.toNat zS47).f0), .int .i64 ((l11528.getD x15357.toNat zS47).f1)], Ass.own 47 kS47 (some ⟨g11527, 0, none⟩) 2 l11528] [] _ := ⟨_, _, hS.re [3, 3] [] rfl sub_self⟩
                refine ED.quick hN hF hC [0, 1, 2, 3, 5, 6] [8, 9, 10, 30, 31, 32, 43, 46, 48, 49] 4 [(8, .pointer (some ⟨g21753, 0, none⟩)), (9, .pointer (some ⟨g21764, 0, none⟩)), (10, .int .i64 x22069), (30, .slice (some ⟨g11527, 0, none⟩) l11528.length 2), (31, .int .i64 (l11528.length : Int)), (32, .int .i64 x15357), (43, .pointer (some ⟨g21764, 0, none⟩)), (46, .agg #[.int .i32 (IntKind.i32.wrap x22069), .int .i64 0, .int .i64 0, .slice none ([] : List Int).length 0, .int .i32 0, .int .i32 0, .int .i32 0, .int .i32 0, .int .i64 0, .int .i64 0, .int .u32 0, .int .i64 0]), (48, .int .i64 x22069), (49, .pointer (some ⟨g21753, 1, none⟩))] #[true, true, true, true, false, true, true, false, false, false] (by kernel_rfl) (by kernel_rfl) ?_
                refine ED.Y hN hF hC 7 3 #[true, true, true, true, false, true, true, true, false, false] (by kernel_rfl) (by kernel_rfl) rfl (fun _ _ _ hS => YO.loadBox hS 0 rfl 3 1 1 (.int .i64 ((l11528.getD x15357.toNat zS47).f1)) 50 (by kernel_rfl) (by kernel_rfl) (by kernel_rfl) (by kernel_rfl)) ?_
                refine ED.quick hN hF hC [8] [8, 9, 10, 30, 31, 32, 43, 46, 51] 2 [(8, .pointer (some ⟨g21753, 0, none⟩)), (9, .pointer (some ⟨g21764, 0, none⟩)), (10, .int .i64 x22069), (30, .slice (some ⟨g11527, 0, none⟩) l11528.length 2), (31, .int .i64 (l11528.length : Int)), (32, .int .i64 x15357), (43, .pointer (some ⟨g21764, 0, none⟩)), (46, .agg #[.int .i32 (IntKind.i32.wrap x22069), .int .i64 0, .int .i64 0, .slice none ([] : List Int).length 0, .int .i32 0, .int .i32 0, .int .i32 0, .int .i32 0, .int .i64 0, .int .i64 0, .int .u32 0, .int .i64 0]), (51, .bool (decide (x22069 < ((l11528.getD x15357.toNat zS47).f1))))] #[true, true, true, true, false, true, true, true, true, false] (by kernel_rfl) (by kernel_rfl) ?_
                have hS := St.nilR hS (Kd.int .i32)
                have hS : St B _ (Ass.box 90 g21764 [.slice A22065 x22064.length C22066, .int .i64 x22067, .int .i64 x22068] :: Ass.own 37 kS37 A22065 C22066 x22064 :: Ass.box 47 g21753 [.int .i64 ((l11528.getD x15357.toNat zS47).f0), .int .i64 ((l11528.getD x15357.toNat zS47).f1)] :: Ass.own 47 kS47 (some ⟨g11527, 0, none⟩) 2 l11528 :: os) (Ro.sl (Kd.int .i32) none 0 ([] : List Int) :: Ro.sl (Kd.int .i32) none 0 ([] : List Int) :: rs) := hS.re [1, 1] [] rfl (sub_cons 0 rfl sub_self)
                refine ED.one 4 1 #[true, true, true, true, true, true, true, true, true, false] (by kernel_rfl) (by kernel_rfl) (by kernel_rfl) (EO.callD 19 [.pointer (some ⟨g21764, 0, none⟩), .agg #[.int .i32 (IntKind.i32.wrap x22069), .int .i64 0, .int .i64 0, .slice none ([] : List Int).length 0, .int .i32 0, .int .i32 0, .int .i32 0, .int .i32 0, .int .i64 0, .int .i64 0, .int .u32 0, .int .i64 0]] _ 47 (by kernel_rfl) (by kernel_rfl) (by kernel_rfl) (ring_Ring_Push.calls hc22144 hS) ?_)
                rintro v w ⟨A22147, C22148, rfl, hS⟩
                have hC : Core B [Ass.box 47 g21753 [.int .i64 ((l11528.getD x15357.toNat zS47).f0), .int .i64 ((l11528.getD x15357.toNat zS47).f1)], Ass.own 47 kS47 (some ⟨g11527, 0, none⟩) 2 l11528] [] _ := ⟨_, _, hS.re [3, 3] [] rfl sub_self⟩
                refine ⟨hC, ?_⟩
                refine ED.quick hN hF hC [9] [8, 9, 10, 30, 31, 32, 52] 0 [(8, .pointer (some ⟨g21753, 0, none⟩)), (9, .pointer (some ⟨g21764, 0, none⟩)), (10, .int .i64 x22069), (30, .slice (some ⟨g11527, 0, none⟩) l11528.length 2), (31, .int .i64 (l11528.length : Int)), (32, .int .i64 x15357), (52, .bool (!((t22141 == (decide (x22069 < ((l11528.getD x15357.toNat zS47).f1)))))))] #[true, true, true, true, true, true, true, true, true, true] (by kernel_rfl) (by kernel_rfl) ?_
                refine ED.done (by kernel_rfl) ?_
                refine EQ.code ?_
                refine EW.condQ (b := !((t22141 == (decide (x22069 < ((l11528.getD x15357.toNat zS47).f1)))))) (o := (.tmp 52)) (x := Cd5.r.r.r.r.l.r.l.l.r.r.l.l.r.r.l.r.l.l.r.l.l.r.l) (y := Cd5.r.r.r.r.l.r.l.l.r.r.l.l.r.r.l.r.l.l.r.l.l.r.r) ((t22141 == (decide (x22069 < ((l11528.getD x15357.toNat zS47).f1)))) = true) (false) (by kernel_rfl) (by kernel_rfl) ⟨fun h => (by rw [h] <;> rfl), fun h => (by rw [Bool.eq_false_iff.2 h] <;> rfl)⟩ (fun h22149 => ?_) (fun h22149 => ?_)
                · rw [if_pos h22149] at H
                  refine EW.skip (by kernel_rfl) ?_
                  refine EQ.pop ?_
                  refine EQ.code ?_
                  refine EW.region (id := 11) (ops := Cd5.r.r.r.r.l.r.l.l.r.r.l.l.r.r.l.r.l.l.r.r.ops) (by kernel_rfl) ?_
                  refine EL.quick 3 [8, 9, 10, 30, 31, 32] [(8, .pointer (some ⟨g21753, 0, none⟩)), (9, .pointer (some ⟨g21764, 0, none⟩)), (10, .int .i64 (IntKind.i64.wrap (x22069 + 1))), (30, .slice (some ⟨g11527, 0, none⟩) l11528.length 2), (31, .int .i64 (l11528.length : Int)), (32, .int .i64 x15357)] (by kernel_rfl) ?_
                  refine EL.done (by kernel_rfl) ?_
                  refine EQ.to ?_
                  refine EQ.keep [8, 9, 10, 30, 31, 32] [(8, .pointer (some ⟨g21753, 0, none⟩)), (9, .pointer (some ⟨g21764, 0, none⟩)), (10, .int .i64 (IntKind.i64.wrap (x22069 + 1))), (30, .slice (some ⟨g11527, 0, none⟩) l11528.length 2), (31, .int .i64 (l11528.length : Int)), (32, .int .i64 x15357)] (by kernel_rfl) ?_
                  exact fun a ha => ⟨n, Nat.lt_succ_self n, t22138, t22139, t22140, IntKind.i64.wrap (x22069 + 1), A22147, C22148, ha, (hS.re [3, 3, 3, 3] [] rfl (sub_tail (sub_tail (sub_self)))), H⟩
                · rw [if_neg h22149] at H
                  refine EW.seq (x := Cd5.r.r.r.r.l.r.l.l.r.r.l.l.r.r.l.r.l.l.r.l.l.r.l.l) (y := Cd5.r.r.r.r.l.r.l.l.r.r.l.l.r.r.l.r.l.l.r.l.l.r.l.r) (by kernel_rfl) ?_
                  refine EW.region (id := 13) (ops := Cd5.r.r.r.r.l.r.l.l.r.r.l.l.r.r.l.r.l.l.r.l.l.r.l.l.ops) (by kernel_rfl) ?_
                  refine EL.quick 1 [4] [(4, .bool (false))] (by kernel_rfl) ?_
                  refine EL.done (by kernel_rfl) ?_
                  refine EQ.code ?_
                  refine EW.ret (by kernel_rfl) ?_
                  refine EQ.ret ?_
                  refine EQ.ret ?_
                  refine EQ.ret ?_
                  refine EQ.ret ?_
                  refine EQ.ret ?_
                  refine EQ.ret ?_
                  refine EQ.ret ?_
                  refine EQ.ret ?_
                  refine EQ.ret ?_
                  refine EQ.ret ?_
                  obtain rfl := Option.some.inj H
                  exact EQ.leave (.bool (false)) (by kernel_rfl) ⟨_, rfl, rfl, (hS.re [] [0, 0, 0, 0] rfl (sub_tail (sub_tail (sub_self))))⟩
              · rw [if_neg h22115] at H
                refine EW.exit (id := 2) (by kernel_rfl) ?_
                refine EQ.exitCode ?_
                refine EQ.exitTo ?_
                refine EQ.exitHere ?_
                refine EQ.to ?_
                refine EQ.keep [8, 9, 30, 31, 32] [(8, .pointer (some ⟨g21753, 0, none⟩)), (9, .pointer (some ⟨g21764, 0, none⟩)), (30, .slice (some ⟨g11527, 0, none⟩) l11528.length 2), (31, .int .i64 (l11528.length : Int)), (32, .int .i64 x15357)] (by kernel_rfl) ?_
                exact fun a ha => ⟨x22064, x22067, x22068, A22065, C22066, ha, (hS.re [3, 3, 3, 3] [] rfl (sub_self)), H⟩
          · obtain ⟨x22016, x22019, x22020, A22017, C22018, ha, hS, H⟩ := hI
            rw [hj22021] at H
            (try dsimp only at H)
            refine EW.at ?_ a ha
            clear ha a
            refine EW.seq (x := Cd5.r.r.r.r.l.r.l.l.r.r.l.l.r.r.r.l) (y := Cd5.r.r.r.r.l.r.l.l.r.r.l.l.r.r.r.r) (by kernel_rfl) ?_
            obtain ⟨j22209, hj22209, H⟩ := lt_out H
            refine EW.cut (x := Cd5.r.r.r.r.l.r.l.l.r.r.l.l.r.r.r.l.l) (y := Cd5.r.r.r.r.l.r.l.l.r.r.l.l.r.r.r.l.r) (fun a w => ∃ x22206 : Int, ∃ x22207 : Int, ∃ x22208 : Bool, Sat 104 [(8, .pointer (some ⟨g21753, 0, none⟩)), (9, .pointer (some ⟨g21764, 0, none⟩)), (30, .slice (some ⟨g11527, 0, none⟩) l11528.length 2), (31, .int .i64 (l11528.length : Int)), (32, .int .i64 x15357), (64, .bool (x22208))] a ∧ St B w (Ass.box 90 g21764 [.slice A22017 x22016.length C22018, .int .i64 x22206, .int .i64 x22207] :: Ass.own 37 kS37 A22017 C22018 x22016 :: Ass.box 47 g21753 [.int .i64 ((l11528.getD x15357.toNat zS47).f0), .int .i64 ((l11528.getD x15357.toNat zS47).f1)] :: Ass.own 47 kS47 (some ⟨g11527, 0, none⟩) 2 l11528 :: os) (rs) ∧ j22209 x22206 x22207 x22208 = some x11514) (by kernel_rfl) ?_ (fun a w hI => ?_)
            · obtain ⟨t22210, t22211, t22212, hc22213, H⟩ := b3_out H
              by_cases h22214 : t22212 = ((l11528.getD x15357.toNat zS47).f1)
              · rw [if_pos h22214] at H
                obtain ⟨t22215, t22216, t22217, hc22218, H⟩ := b3_out H
                have hS := hS.drew
                refine EW.draw (B := B) (id := 14) (ops := Cd5.r.r.r.r.l.r.l.l.r.r.l.l.r.r.r.l.l.ops) [Ass.own 37 kS37 A22017 C22018 x22016, Ass.box 47 g21753 [.int .i64 ((l11528.getD x15357.toNat zS47).f0), .int .i64 ((l11528.getD x15357.toNat zS47).f1)], Ass.own 47 kS47 (some ⟨g11527, 0, none⟩) 2 l11528] [] (by kernel_rfl) (by kernel_rfl) ?_
                have hN : Region.noSelect Cd5.r.r.r.r.l.r.l.l.r.r.l.l.r.r.r.l.l.ops = true := (by kernel_rfl)
                have hF : freeAll Cd5.r.r.r.r.l.r.l.l.r.r.l.l.r.r.r.l.l.ops = true := (by kernel_rfl)
                have hC : Core B [Ass.own 37 kS37 A22017 C22018 x22016, Ass.box 47 g21753 [.int .i64 ((l11528.getD x15357.toNat zS47).f0), .int .i64 ((l11528.getD x15357.toNat zS47).f1)], Ass.own 47 kS47 (some ⟨g11527, 0, none⟩) 2 l11528] [] _ := ⟨_, _, hS.re [3, 3, 3] [] rfl sub_self⟩
                refine ED.quick hN hF hC [0, 2] [8, 9, 30, 31, 32, 53, 55] 10 [(8, .pointer (some ⟨g21753, 0, none⟩)), (9, .pointer (some ⟨g21764, 0, none⟩)), (30, .slice (some ⟨g11527, 0, none⟩) l11528.length 2), (31, .int .i64 (l11528.length : Int)), (32, .int .i64 x15357), (53, .pointer (some ⟨g21764, 0, none⟩)), (55, .pointer (some ⟨g21753, 1, none⟩))] #[true, false, true, false, false, false, false, false, false, false, false, false] (by kernel_rfl) (by kernel_rfl) ?_
                refine ED.Y hN hF hC 3 9 #[true, false, true, true, false, false, false, false, false, false, false, false] (by kernel_rfl) (by kernel_rfl) rfl (fun _ _ _ hS => YO.loadBox hS 1 rfl 3 1 1 (.int .i64 ((l11528.getD x15357.toNat zS47).f1)) 56 (by kernel_rfl) (by kernel_rfl) (by kernel_rfl) (by kernel_rfl)) ?_
                refine ED.one 1 8 #[true, true, true, true, false, false, false, false, false, false, false, false] (by kernel_rfl) (by kernel_rfl) (by kernel_rfl) (EO.callD 29 [.pointer (some ⟨g21764, 0, none⟩)] _ 54 (by kernel_rfl) (by kernel_rfl) (by kernel_rfl) (ring_Ring_Len.calls hc22213 hS) ?_)
                rintro v w ⟨rfl, hS⟩
                have hC : Core B [Ass.own 37 kS37 A22017 C22018 x22016, Ass.box 47 g21753 [.int .i64 ((l11528.getD x15357.toNat zS47).f0), .int .i64 ((l11528.getD x15357.toNat zS47).f1)], Ass.own 47 kS47 (some ⟨g11527, 0, none⟩) 2 l11528] [] _ := ⟨_, _, hS.re [3, 3, 3] [] rfl sub_self⟩
                refine ⟨hC, ?_⟩
                refine ED.quick hN hF hC [4, 5] [8, 9, 30, 31, 32, 58] 6 [(8, .pointer (some ⟨g21753, 0, none⟩)), (9, .pointer (some ⟨g21764, 0, none⟩)), (30, .slice (some ⟨g11527, 0, none⟩) l11528.length 2), (31, .int .i64 (l11528.length : Int)), (32, .int .i64 x15357), (58, .bool (!(decide (t22212 = ((l11528.getD x15357.toNat zS47).f1)))))] #[true, true, true, true, true, true, false, false, false, false, false, false] (by kernel_rfl) (by kernel_rfl) ?_
                refine ED.keep [8, 9, 30, 31, 32, 58] [(8, .pointer (some ⟨g21753, 0, none⟩)), (9, .pointer (some ⟨g21764, 0, none⟩)), (30, .slice (some ⟨g11527, 0, none⟩) l11528.length 2), (31, .int .i64 (l11528.length : Int)), (32, .int .i64 x15357), (58, .bool (!(decide (t22212 = ((l11528.getD x15357.toNat zS47).f1)))))] (by kernel_rfl) ?_
                refine ED.as' [(8, .pointer (some ⟨g21753, 0, none⟩)), (9, .pointer (some ⟨g21764, 0, none⟩)), (30, .slice (some ⟨g11527, 0, none⟩) l11528.length 2), (31, .int .i64 (l11528.length : Int)), (32, .int .i64 x15357), (58, .bool (false))] (by simp only [dec_t h22214, Bool.not_true, Bool.not_false]) ?_
                refine ED.quick hN hF hC [6, 8] [8, 9, 30, 31, 32, 58, 59, 61] 4 [(8, .pointer (some ⟨g21753, 0, none⟩)), (9, .pointer (some ⟨g21764, 0, none⟩)), (30, .slice (some ⟨g11527, 0, none⟩) l11528.length 2), (31, .int .i64 (l11528.length : Int)), (32, .int .i64 x15357), (58, .bool (false)), (59, .pointer (some ⟨g21764, 0, none⟩)), (61, .pointer (some ⟨g21753, 1, none⟩))] #[true, true, true, true, true, true, true, false, true, false, false, false] (by kernel_rfl) (by kernel_rfl) ?_
                refine ED.Y hN hF hC 9 3 #[true, true, true, true, true, true, true, false, true, true, false, false] (by kernel_rfl) (by kernel_rfl) rfl (fun _ _ _ hS => YO.loadBox hS 1 rfl 3 1 1 (.int .i64 ((l11528.getD x15357.toNat zS47).f1)) 62 (by kernel_rfl) (by kernel_rfl) (by kernel_rfl) (by kernel_rfl)) ?_
                refine ED.one 7 2 #[true, true, true, true, true, true, true, true, true, true, false, false] (by kernel_rfl) (by kernel_rfl) (by kernel_rfl) (EO.callD 18 [.pointer (some ⟨g21764, 0, none⟩)] _ 60 (by kernel_rfl) (by kernel_rfl) (by kernel_rfl) (ring_Ring_Room.calls hc22218 hS) ?_)
                rintro v w ⟨rfl, hS⟩
                have hC : Core B [Ass.own 37 kS37 A22017 C22018 x22016, Ass.box 47 g21753 [.int .i64 ((l11528.getD x15357.toNat zS47).f0), .int .i64 ((l11528.getD x15357.toNat zS47).f1)], Ass.own 47 kS47 (some ⟨g11527, 0, none⟩) 2 l11528] [] _ := ⟨_, _, hS.re [3, 3, 3] [] rfl sub_self⟩
                refine ⟨hC, ?_⟩
                refine ED.quick hN hF hC [10, 11] [8, 9, 30, 31, 32, 59, 60, 61, 62, 63, 64] 0 [(8, .pointer (some ⟨g21753, 0, none⟩)), (9, .pointer (some ⟨g21764, 0, none⟩)), (30, .slice (some ⟨g11527, 0, none⟩) l11528.length 2), (31, .int .i64 (l11528.length : Int)), (32, .int .i64 x15357), (59, .pointer (some ⟨g21764, 0, none⟩)), (60, .int .i64 t22217), (61, .pointer (some ⟨g21753, 1, none⟩)), (62, .int .i64 ((l11528.getD x15357.toNat zS47).f1)), (63, .bool (!(decide (t22217 = ((l11528.getD x15357.toNat zS47).f1))))), (64, .bool (!(decide (t22217 = ((l11528.getD x15357.toNat zS47).f1)))))] #[true, true, true, true, true, true, true, true, true, true, true, true] (by kernel_rfl) (by kernel_rfl) ?_
                refine ED.done (by kernel_rfl) ?_
                refine EQ.to ?_
                refine EQ.keep [8, 9, 30, 31, 32, 64] [(8, .pointer (some ⟨g21753, 0, none⟩)), (9, .pointer (some ⟨g21764, 0, none⟩)), (30, .slice (some ⟨g11527, 0, none⟩) l11528.length 2), (31, .int .i64 (l11528.length : Int)), (32, .int .i64 x15357), (64, .bool (!(decide (t22217 = ((l11528.getD x15357.toNat zS47).f1)))))] (by kernel_rfl) ?_
                exact fun a ha => ⟨t22215, t22216, !(decide (t22217 = ((l11528.getD x15357.toNat zS47).f1))), ha, (hS.re [3, 3, 3, 3] [] rfl (sub_self)), H⟩
              · rw [if_neg h22214] at H
                have hS := hS.drew
                refine EW.draw (B := B) (id := 14) (ops := Cd5.r.r.r.r.l.r.l.l.r.r.l.l.r.r.r.l.l.ops) [Ass.own 37 kS37 A22017 C22018 x22016, Ass.box 47 g21753 [.int .i64 ((l11528.getD x15357.toNat zS47).f0), .int .i64 ((l11528.getD x15357.toNat zS47).f1)], Ass.own 47 kS47 (some ⟨g11527, 0, none⟩) 2 l11528] [] (by kernel_rfl) (by kernel_rfl) ?_
                have hN : Region.noSelect Cd5.r.r.r.r.l.r.l.l.r.r.l.l.r.r.r.l.l.ops = true := (by kernel_rfl)
                have hF : freeAll Cd5.r.r.r.r.l.r.l.l.r.r.l.l.r.r.r.l.l.ops = true := (by kernel_rfl)
                have hC : Core B [Ass.own 37 kS37 A22017 C22018 x22016, Ass.box 47 g21753 [.int .i64 ((l11528.getD x15357.toNat zS47).f0), .int .i64 ((l11528.getD x15357.toNat zS47).f1)], Ass.own 47 kS47 (some ⟨g11527, 0, none⟩) 2 l11528] [] _ := ⟨_, _, hS.re [3, 3, 3] [] rfl sub_self⟩
                refine ED.quick hN hF hC [0, 2] [8, 9, 30, 31, 32, 53, 55] 10 [(8, .pointer (some ⟨g21753, 0, none⟩)), (9, .pointer (some ⟨g21764, 0, none⟩)), (30, .slice (some ⟨g11527, 0, none⟩) l11528.length 2), (31, .int .i64 (l11528.length : Int)), (32, .int .i64 x15357), (53, .pointer (some ⟨g21764, 0, none⟩)), (55, .pointer (some ⟨g21753, 1, none⟩))] #[true, false, true, false, false, false, false, false, false, false, false, false] (by kernel_rfl) (by kernel_rfl) ?_
                refine ED.Y hN hF hC 3 9 #[true, false, true, true, false, false, false, false, false, false, false, false] (by kernel_rfl) (by kernel_rfl) rfl (fun _ _ _ hS => YO.loadBox hS 1 rfl 3 1 1 (.int .i64 ((l11528.getD x15357.toNat zS47).f1)) 56 (by kernel_rfl) (by kernel_rfl) (by kernel_rfl) (by kernel_rfl)) ?_
                refine ED.one 1 8 #[true, true, true, true, false, false, false, false, false, false, false, false] (by kernel_rfl) (by kernel_rfl) (by kernel_rfl) (EO.callD 29 [.pointer (some ⟨g21764, 0, none⟩)] _ 54 (by kernel_rfl) (by kernel_rfl) (by kernel_rfl) (ring_Ring_Len.calls hc22213 hS) ?_)
                rintro v w ⟨rfl, hS⟩
                have hC : Core B [Ass.own 37 kS37 A22017 C22018 x22016, Ass.box 47 g21753 [.int .i64 ((l11528.getD x15357.toNat zS47).f0), .int .i64 ((l11528.getD x15357.toNat zS47).f1)], Ass.own 47 kS47 (some ⟨g11527, 0, none⟩) 2 l11528] [] _ := ⟨_, _, hS.re [3, 3, 3] [] rfl sub_self⟩
                refine ⟨hC, ?_⟩
                refine ED.quick hN hF hC [4, 5] [8, 9, 30, 31, 32, 58] 6 [(8, .pointer (some ⟨g21753, 0, none⟩)), (9, .pointer (some ⟨g21764, 0, none⟩)), (30, .slice (some ⟨g11527, 0, none⟩) l11528.length 2), (31, .int .i64 (l11528.length : Int)), (32, .int .i64 x15357), (58, .bool (!(decide (t22212 = ((l11528.getD x15357.toNat zS47).f1)))))] #[true, true, true, true, true, true, false, false, false, false, false, false] (by kernel_rfl) (by kernel_rfl) ?_
                refine ED.keep [8, 9, 30, 31, 32, 58] [(8, .pointer (some ⟨g21753, 0, none⟩)), (9, .pointer (some ⟨g21764, 0, none⟩)), (30, .slice (some ⟨g11527, 0, none⟩) l11528.length 2), (31, .int .i64 (l11528.length : Int)), (32, .int .i64 x15357), (58, .bool (!(decide (t22212 = ((l11528.getD x15357.toNat zS47).f1)))))] (by kernel_rfl) ?_
                refine ED.as' [(8, .pointer (some ⟨g21753, 0, none⟩)), (9, .pointer (some ⟨g21764, 0, none⟩)), (30, .slice (some ⟨g11527, 0, none⟩) l11528.length 2), (31, .int .i64 (l11528.length : Int)), (32, .int .i64 x15357), (58, .bool (true))] (by simp only [dec_f h22214, Bool.not_true, Bool.not_false]) ?_
                refine ED.quick hN hF hC [6, 7, 8, 9, 10, 11] [8, 9, 30, 31, 32, 59, 60, 61, 62, 63, 64] 0 [(8, .pointer (some ⟨g21753, 0, none⟩)), (9, .pointer (some ⟨g21764, 0, none⟩)), (30, .slice (some ⟨g11527, 0, none⟩) l11528.length 2), (31, .int .i64 (l11528.length : Int)), (32, .int .i64 x15357), (59, undef), (60, undef), (61, undef), (62, undef), (63, undef), (64, .bool (true))] #[true, true, true, true, true, true, true, true, true, true, true, true] (by kernel_rfl) (by kernel_rfl) ?_
                refine ED.done (by kernel_rfl) ?_
                refine EQ.to ?_
                refine EQ.keep [8, 9, 30, 31, 32, 64] [(8, .pointer (some ⟨g21753, 0, none⟩)), (9, .pointer (some ⟨g21764, 0, none⟩)), (30, .slice (some ⟨g11527, 0, none⟩) l11528.length 2), (31, .int .i64 (l11528.length : Int)), (32, .int .i64 x15357), (64, .bool (true))] (by kernel_rfl) ?_
                exact fun a ha => ⟨t22210, t22211, true, ha, (hS.re [3, 3, 3, 3] [] rfl (sub_self)), H⟩
            · obtain ⟨x22206, x22207, x22208, ha, hS, H⟩ := hI
              rw [hj22209] at H
              (try dsimp only at H)
              refine EW.at ?_ a ha
              clear ha a
              refine EW.condP' (o := (.tmp 64)) (x := Cd5.r.r.r.r.l.r.l.l.r.r.l.l.r.r.r.l.r.l) (y := Cd5.r.r.r.r.l.r.l.l.r.r.l.l.r.r.r.l.r.r) (x22208) (by kernel_rfl) (by kernel_rfl) (fun h22219 => ?_) (fun h22219 => ?_)
              · rw [if_pos h22219] at H
                refine EW.seq (x := Cd5.r.r.r.r.l.r.l.l.r.r.l.l.r.r.r.l.r.l.l) (y := Cd5.r.r.r.r.l.r.l.l.r.r.l.l.r.r.r.l.r.l.r) (by kernel_rfl) ?_
                refine EW.region (id := 15) (ops := Cd5.r.r.r.r.l.r.l.l.r.r.l.l.r.r.r.l.r.l.l.ops) (by kernel_rfl) ?_
                refine EL.quick 1 [4] [(4, .bool (false))] (by kernel_rfl) ?_
                refine EL.done (by kernel_rfl) ?_
                refine EQ.code ?_
                refine EW.ret (by kernel_rfl) ?_
                refine EQ.ret ?_
                refine EQ.ret ?_
                refine EQ.ret ?_
                refine EQ.ret ?_
                refine EQ.ret ?_
                refine EQ.ret ?_
                obtain rfl := Option.some.inj H
                exact EQ.leave (.bool (false)) (by kernel_rfl) ⟨_, rfl, rfl, (hS.re [] [0, 0, 0, 0] rfl (sub_self))⟩
              · rw [if_neg h22219] at H
                refine EW.skip (by kernel_rfl) ?_
                refine EQ.code ?_
                refine EW.seq (x := Cd5.r.r.r.r.l.r.l.l.r.r.l.l.r.r.r.r.l) (y := Cd5.r.r.r.r.l.r.l.l.r.r.l.l.r.r.r.r.r) (by kernel_rfl) ?_
                refine EW.region (id := 16) (ops := Cd5.r.r.r.r.l.r.l.l.r.r.l.l.r.r.r.r.l.ops) (by kernel_rfl) ?_
                refine EL.quick 1 [8, 9, 11, 30, 31, 32] [(8, .pointer (some ⟨g21753, 0, none⟩)), (9, .pointer (some ⟨g21764, 0, none⟩)), (11, .int .i64 0), (30, .slice (some ⟨g11527, 0, none⟩) l11528.length 2), (31, .int .i64 (l11528.length : Int)), (32, .int .i64 x15357)] (by kernel_rfl) ?_
                refine EL.done (by kernel_rfl) ?_
                refine EQ.code ?_
                refine EW.block (x := Cd5.r.r.r.r.l.r.l.l.r.r.l.l.r.r.r.r.r.l) (id := 4) (by kernel_rfl) ?_
                refine EW.loop (x := Cd5.r.r.r.r.l.r.l.l.r.r.l.l.r.r.r.r.r.l.l) (fun n a w => ∃ x22490 : List S37, ∃ x22493 : Int, ∃ x22494 : Int, ∃ x22495 : Int, ∃ A22491 : Option Addr, ∃ C22492 : Nat, Sat 104 [(8, .pointer (some ⟨g21753, 0, none⟩)), (9, .pointer (some ⟨g21764, 0, none⟩)), (11, .int .i64 x22495), (30, .slice (some ⟨g11527, 0, none⟩) l11528.length 2), (31, .int .i64 (l11528.length : Int)), (32, .int .i64 x15357)] a ∧ St B w (Ass.box 90 g21764 [.slice A22491 x22490.length C22492, .int .i64 x22493, .int .i64 x22494] :: Ass.own 37 kS37 A22491 C22492 x22490 :: Ass.box 47 g21753 [.int .i64 ((l11528.getD x15357.toNat zS47).f0), .int .i64 ((l11528.getD x15357.toNat zS47).f1)] :: Ass.own 47 kS47 (some ⟨g11527, 0, none⟩) 2 l11528 :: os) (rs) ∧ confidantlaw15_RingRooms.l2 K l11528 x15357 j21749 n x22490 x22493 x22494 x22495 = some x11514) K (by kernel_rfl) ?_ (fun n a w hI => ?_)
                · refine EQ.keep [8, 9, 11, 30, 31, 32] [(8, .pointer (some ⟨g21753, 0, none⟩)), (9, .pointer (some ⟨g21764, 0, none⟩)), (11, .int .i64 0), (30, .slice (some ⟨g11527, 0, none⟩) l11528.length 2), (31, .int .i64 (l11528.length : Int)), (32, .int .i64 x15357)] (by kernel_rfl) ?_
                  exact fun a ha => ⟨x22016, x22206, x22207, 0, A22017, C22018, ha, (hS.re [3, 3, 3, 3] [] rfl (sub_self)), H⟩
                · obtain ⟨x22490, x22493, x22494, x22495, A22491, C22492, ha, hS, H⟩ := hI
                  obtain _ | n := n
                  · simp [confidantlaw15_RingRooms.l2] at H
                  rw [confidantlaw15_RingRooms.l2.eq_2] at H
                  refine EW.at ?_ a ha
                  clear ha a
                  refine EW.seq (x := Cd5.r.r.r.r.l.r.l.l.r.r.l.l.r.r.r.r.r.l.l.l) (y := Cd5.r.r.r.r.l.r.l.l.r.r.l.l.r.r.r.r.r.l.l.r) (by kernel_rfl) ?_
                  refine EW.seq (x := Cd5.r.r.r.r.l.r.l.l.r.r.l.l.r.r.r.r.r.l.l.l.l) (y := Cd5.r.r.r.r.l.r.l.l.r.r.l.l.r.r.r.r.r.l.l.l.r) (by kernel_rfl) ?_
                  refine EW.region (id := 17) (ops := Cd5.r.r.r.r.l.r.l.l.r.r.l.l.r.r.r.r.r.l.l.l.l.ops) (by kernel_rfl) ?_
                  refine EL.quick 2 [8, 9, 11, 30, 31, 32, 66] [(8, .pointer (some ⟨g21753, 0, none⟩)), (9, .pointer (some ⟨g21764, 0, none⟩)), (11, .int .i64 x22495), (30, .slice (some ⟨g11527, 0, none⟩) l11528.length 2), (31, .int .i64 (l11528.length : Int)), (32, .int .i64 x15357), (66, .bool (decide (x22495 < 200)))] (by kernel_rfl) ?_
                  refine EL.done (by kernel_rfl) ?_
                  refine EQ.code ?_
                  refine EW.condP (o := (.tmp 66)) (x := Cd5.r.r.r.r.l.r.l.l.r.r.l.l.r.r.r.r.r.l.l.l.r.l) (y := Cd5.r.r.r.r.l.r.l.l.r.r.l.l.r.r.r.r.r.l.l.l.r.r) (x22495 < 200) (by kernel_rfl) (by kernel_rfl) (fun h22769 => ?_) (fun h22769 => ?_)
                  · rw [if_pos h22769] at H
                    refine EW.skip (by kernel_rfl) ?_
                    refine EQ.code ?_
                    refine EW.seq (x := Cd5.r.r.r.r.l.r.l.l.r.r.l.l.r.r.r.r.r.l.l.r.l) (y := Cd5.r.r.r.r.l.r.l.l.r.r.l.l.r.r.r.r.r.l.l.r.r) (by kernel_rfl) ?_
                    refine EW.block (x := Cd5.r.r.r.r.l.r.l.l.r.r.l.l.r.r.r.r.r.l.l.r.l.l) (id := 5) (by kernel_rfl) ?_
                    refine EW.seq (x := Cd5.r.r.r.r.l.r.l.l.r.r.l.l.r.r.r.r.r.l.l.r.l.l.l) (y := Cd5.r.r.r.r.l.r.l.l.r.r.l.l.r.r.r.r.r.l.l.r.l.l.r) (by kernel_rfl) ?_
                    refine EW.region (id := 19) (ops := Cd5.r.r.r.r.l.r.l.l.r.r.l.l.r.r.r.r.r.l.l.r.l.l.l.ops) (by kernel_rfl) ?_
                    refine EL.quick 1 [8, 9, 11, 30, 31, 32, 70] [(8, .pointer (some ⟨g21753, 0, none⟩)), (9, .pointer (some ⟨g21764, 0, none⟩)), (11, .int .i64 x22495), (30, .slice (some ⟨g11527, 0, none⟩) l11528.length 2), (31, .int .i64 (l11528.length : Int)), (32, .int .i64 x15357), (70, .pointer (some ⟨g21764, 0, none⟩))] (by kernel_rfl) ?_
                    obtain ⟨t22907, t22908, t22909, t22910, hc22913, H⟩ := b4_out H
                    refine EL.of (EO.callD 24 [.pointer (some ⟨g21764, 0, none⟩)] _ 71 (by kernel_rfl) (by kernel_rfl) (by kernel_rfl) (ring_Ring_Steal.calls hc22913 hS) ?_)
                    rintro v w ⟨A22911, C22912, rfl, hS⟩
                    refine EL.quick 3 [8, 9, 11, 30, 31, 32, 72, 73] [(8, .pointer (some ⟨g21753, 0, none⟩)), (9, .pointer (some ⟨g21764, 0, none⟩)), (11, .int .i64 x22495), (30, .slice (some ⟨g11527, 0, none⟩) l11528.length 2), (31, .int .i64 (l11528.length : Int)), (32, .int .i64 x15357), (72, .agg #[.int .i32 t22909.f0, .int .i64 t22909.f1, .int .i64 t22909.f2, .slice A22911 t22909.f3.length C22912, .int .i32 t22909.f4.f0, .int .i32 t22909.f4.f1, .int .i32 t22909.f4.f2, .int .i32 t22909.f4.f3, .int .i64 t22909.f5, .int .i64 t22909.f6, .int .u32 t22909.f7, .int .i64 t22909.f8]), (73, .bool (t22910))] (by kernel_rfl) ?_
                    refine EL.of (EO.alloc hS 37 (.agg #[.int .i32 0, .int .i64 0, .int .i64 0, .slice none ([] : List Int).length 0, .int .i32 0, .int .i32 0, .int .i32 0, .int .i32 0, .int .i64 0, .int .i64 0, .int .u32 0, .int .i64 0]) [.int .i32 0, .int .i64 0, .int .i64 0, .slice none ([] : List Int).length 0, .int .i32 0, .int .i32 0, .int .i32 0, .int .i32 0, .int .i64 0, .int .i64 0, .int .u32 0, .int .i64 0] 12 (by kernel_rfl) (by kernel_rfl) (by kernel_rfl) (by kernel_rfl) (by first | rfl | kernel_rfl) ?_)
                    intro g22914 w hS
                    refine EL.of (EO.storeBox (os' := Ass.box 37 g22914 [.int .i32 t22909.f0, .int .i64 t22909.f1, .int .i64 t22909.f2, .slice A22911 t22909.f3.length C22912, .int .i32 t22909.f4.f0, .int .i32 t22909.f4.f1, .int .i32 t22909.f4.f2, .int .i32 t22909.f4.f3, .int .i64 t22909.f5, .int .i64 t22909.f6, .int .u32 t22909.f7, .int .i64 t22909.f8] :: Ass.box 90 g21764 [.slice A22491 x22490.length C22492, .int .i64 t22907, .int .i64 t22908] :: Ass.own 37 kS37 A22491 C22492 x22490 :: Ass.box 47 g21753 [.int .i64 ((l11528.getD x15357.toNat zS47).f0), .int .i64 ((l11528.getD x15357.toNat zS47).f1)] :: Ass.own 47 kS47 (some ⟨g11527, 0, none⟩) 2 l11528 :: os) hS 0 rfl 37 0 (.agg #[.int .i32 t22909.f0, .int .i64 t22909.f1, .int .i64 t22909.f2, .slice A22911 t22909.f3.length C22912, .int .i32 t22909.f4.f0, .int .i32 t22909.f4.f1, .int .i32 t22909.f4.f2, .int .i32 t22909.f4.f3, .int .i64 t22909.f5, .int .i64 t22909.f6, .int .u32 t22909.f7, .int .i64 t22909.f8]) [.int .i32 t22909.f0, .int .i64 t22909.f1, .int .i64 t22909.f2, .slice A22911 t22909.f3.length C22912, .int .i32 t22909.f4.f0, .int .i32 t22909.f4.f1, .int .i32 t22909.f4.f2, .int .i32 t22909.f4.f3, .int .i64 t22909.f5, .int .i64 t22909.f6, .int .u32 t22909.f7, .int .i64 t22909.f8] (by kernel_rfl) (by kernel_rfl) (by kernel_rfl) (by kernel_rfl) (by kernel_rfl) (by kernel_rfl) rfl rfl ?_)
                    intro w hS
                    refine EL.quick 1 [8, 9, 11, 12, 13, 30, 31, 32] [(8, .pointer (some ⟨g21753, 0, none⟩)), (9, .pointer (some ⟨g21764, 0, none⟩)), (11, .int .i64 x22495), (12, .pointer (some ⟨g22914, 0, none⟩)), (13, .bool (t22910)), (30, .slice (some ⟨g11527, 0, none⟩) l11528.length 2), (31, .int .i64 (l11528.length : Int)), (32, .int .i64 x15357)] (by kernel_rfl) ?_
                    refine EL.done (by kernel_rfl) ?_
                    refine EQ.code ?_
                    obtain ⟨j22993, hj22993, H⟩ := lt_out H
                    refine EW.cut (x := Cd5.r.r.r.r.l.r.l.l.r.r.l.l.r.r.r.r.r.l.l.r.l.l.r.l) (y := Cd5.r.r.r.r.l.r.l.l.r.r.l.l.r.r.r.r.r.l.l.r.l.l.r.r) (fun a w => ∃ x22987 : List S37, ∃ x22990 : Int, ∃ x22991 : Int, ∃ x22992 : Bool, ∃ A22988 : Option Addr, ∃ C22989 : Nat, Sat 104 [(8, .pointer (some ⟨g21753, 0, none⟩)), (9, .pointer (some ⟨g21764, 0, none⟩)), (11, .int .i64 x22495), (30, .slice (some ⟨g11527, 0, none⟩) l11528.length 2), (31, .int .i64 (l11528.length : Int)), (32, .int .i64 x15357), (102, .bool (x22992))] a ∧ St B w (Ass.box 90 g21764 [.slice A22988 x22987.length C22989, .int .i64 x22990, .int .i64 x22991] :: Ass.own 37 kS37 A22988 C22989 x22987 :: Ass.box 37 g22914 [.int .i32 t22909.f0, .int .i64 t22909.f1, .int .i64 t22909.f2, .slice A22911 t22909.f3.length C22912, .int .i32 t22909.f4.f0, .int .i32 t22909.f4.f1, .int .i32 t22909.f4.f2, .int .i32 t22909.f4.f3, .int .i64 t22909.f5, .int .i64 t22909.f6, .int .u32 t22909.f7, .int .i64 t22909.f8] :: Ass.box 47 g21753 [.int .i64 ((l11528.getD x15357.toNat zS47).f0), .int .i64 ((l11528.getD x15357.toNat zS47).f1)] :: Ass.own 47 kS47 (some ⟨g11527, 0, none⟩) 2 l11528 :: os) (Ro.sl (Kd.int .i32) A22911 C22912 t22909.f3 :: rs) ∧ j22993 x22987 x22990 x22991 x22992 = some x11514) (by kernel_rfl) ?_ (fun a w hI => ?_)
                    · refine EW.region (id := 20) (ops := Cd5.r.r.r.r.l.r.l.l.r.r.l.l.r.r.r.r.r.l.l.r.l.l.r.l.ops) (by kernel_rfl) ?_
                      refine EL.quick 3 [8, 9, 11, 12, 30, 31, 32, 76] [(8, .pointer (some ⟨g21753, 0, none⟩)), (9, .pointer (some ⟨g21764, 0, none⟩)), (11, .int .i64 x22495), (12, .pointer (some ⟨g22914, 0, none⟩)), (30, .slice (some ⟨g11527, 0, none⟩) l11528.length 2), (31, .int .i64 (l11528.length : Int)), (32, .int .i64 x15357), (76, .bool (!(t22910)))] (by kernel_rfl) ?_
                      by_cases h22994 : t22910 = true
                      · rw [if_pos h22994] at H
                        refine EL.keep [8, 9, 11, 12, 30, 31, 32, 76] [(8, .pointer (some ⟨g21753, 0, none⟩)), (9, .pointer (some ⟨g21764, 0, none⟩)), (11, .int .i64 x22495), (12, .pointer (some ⟨g22914, 0, none⟩)), (30, .slice (some ⟨g11527, 0, none⟩) l11528.length 2), (31, .int .i64 (l11528.length : Int)), (32, .int .i64 x15357), (76, .bool (!(t22910)))] (by kernel_rfl) ?_
                        refine EL.as' [(8, .pointer (some ⟨g21753, 0, none⟩)), (9, .pointer (some ⟨g21764, 0, none⟩)), (11, .int .i64 x22495), (12, .pointer (some ⟨g22914, 0, none⟩)), (30, .slice (some ⟨g11527, 0, none⟩) l11528.length 2), (31, .int .i64 (l11528.length : Int)), (32, .int .i64 x15357), (76, .bool (false))] (by simp only [h22994, Bool.not_true, Bool.not_false]) ?_
                        refine EL.quick 2 [8, 9, 11, 12, 30, 31, 32, 76, 77, 78] [(8, .pointer (some ⟨g21753, 0, none⟩)), (9, .pointer (some ⟨g21764, 0, none⟩)), (11, .int .i64 x22495), (12, .pointer (some ⟨g22914, 0, none⟩)), (30, .slice (some ⟨g11527, 0, none⟩) l11528.length 2), (31, .int .i64 (l11528.length : Int)), (32, .int .i64 x15357), (76, .bool (false)), (77, .int .i64 x22495), (78, .pointer (some ⟨g21753, 1, none⟩))] (by kernel_rfl) ?_
                        refine EL.of (EO.Y (YO.loadBox hS 3 rfl 3 1 1 (.int .i64 ((l11528.getD x15357.toNat zS47).f1)) 79 (by kernel_rfl) (by kernel_rfl) (by kernel_rfl) (by kernel_rfl)) ?_)
                        refine EL.quick 2 [8, 9, 11, 12, 30, 31, 32, 76, 77, 78, 79, 80, 81] [(8, .pointer (some ⟨g21753, 0, none⟩)), (9, .pointer (some ⟨g21764, 0, none⟩)), (11, .int .i64 x22495), (12, .pointer (some ⟨g22914, 0, none⟩)), (30, .slice (some ⟨g11527, 0, none⟩) l11528.length 2), (31, .int .i64 (l11528.length : Int)), (32, .int .i64 x15357), (76, .bool (false)), (77, .int .i64 x22495), (78, .pointer (some ⟨g21753, 1, none⟩)), (79, .int .i64 ((l11528.getD x15357.toNat zS47).f1)), (80, .bool (decide (x22495 < ((l11528.getD x15357.toNat zS47).f1)))), (81, .bool (decide (x22495 < ((l11528.getD x15357.toNat zS47).f1))))] (by kernel_rfl) ?_
                        by_cases h22995 : x22495 < ((l11528.getD x15357.toNat zS47).f1)
                        · rw [if_pos h22995] at H
                          refine EL.keep [8, 9, 11, 12, 30, 31, 32, 76, 77, 78, 79, 80, 81] [(8, .pointer (some ⟨g21753, 0, none⟩)), (9, .pointer (some ⟨g21764, 0, none⟩)), (11, .int .i64 x22495), (12, .pointer (some ⟨g22914, 0, none⟩)), (30, .slice (some ⟨g11527, 0, none⟩) l11528.length 2), (31, .int .i64 (l11528.length : Int)), (32, .int .i64 x15357), (76, .bool (false)), (77, .int .i64 x22495), (78, .pointer (some ⟨g21753, 1, none⟩)), (79, .int .i64 ((l11528.getD x15357.toNat zS47).f1)), (80, .bool (decide (x22495 < ((l11528.getD x15357.toNat zS47).f1)))), (81, .bool (decide (x22495 < ((l11528.getD x15357.toNat zS47).f1))))] (by kernel_rfl) ?_
                          refine EL.as' [(8, .pointer (some ⟨g21753, 0, none⟩)), (9, .pointer (some ⟨g21764, 0, none⟩)), (11, .int .i64 x22495), (12, .pointer (some ⟨g22914, 0, none⟩)), (30, .slice (some ⟨g11527, 0, none⟩) l11528.length 2), (31, .int .i64 (l11528.length : Int)), (32, .int .i64 x15357), (76, .bool (false)), (77, .int .i64 x22495), (78, .pointer (some ⟨g21753, 1, none⟩)), (79, .int .i64 ((l11528.getD x15357.toNat zS47).f1)), (80, .bool (true)), (81, .bool (true))] (by simp only [dec_t h22995, Bool.not_true, Bool.not_false]) ?_
                          refine EL.quick 1 [8, 9, 11, 30, 31, 32, 76, 77, 78, 79, 80, 81, 82] [(8, .pointer (some ⟨g21753, 0, none⟩)), (9, .pointer (some ⟨g21764, 0, none⟩)), (11, .int .i64 x22495), (30, .slice (some ⟨g11527, 0, none⟩) l11528.length 2), (31, .int .i64 (l11528.length : Int)), (32, .int .i64 x15357), (76, .bool (false)), (77, .int .i64 x22495), (78, .pointer (some ⟨g21753, 1, none⟩)), (79, .int .i64 ((l11528.getD x15357.toNat zS47).f1)), (80, .bool (true)), (81, .bool (true)), (82, .pointer (some ⟨g22914, 0, none⟩))] (by kernel_rfl) ?_
                          refine EL.of (EO.Y (YO.loadBox hS 0 rfl 21 0 1 (.int .i32 t22909.f0) 83 (by kernel_rfl) (by kernel_rfl) (by kernel_rfl) (by kernel_rfl)) ?_)
                          refine EL.quick 6 [8, 9, 11, 30, 31, 32, 77, 78, 79, 80, 81, 82, 83, 84, 85, 86, 87, 89] [(8, .pointer (some ⟨g21753, 0, none⟩)), (9, .pointer (some ⟨g21764, 0, none⟩)), (11, .int .i64 x22495), (30, .slice (some ⟨g11527, 0, none⟩) l11528.length 2), (31, .int .i64 (l11528.length : Int)), (32, .int .i64 x15357), (77, .int .i64 x22495), (78, .pointer (some ⟨g21753, 1, none⟩)), (79, .int .i64 ((l11528.getD x15357.toNat zS47).f1)), (80, .bool (true)), (81, .bool (true)), (82, .pointer (some ⟨g22914, 0, none⟩)), (83, .int .i32 t22909.f0), (84, .int .i64 (IntKind.i64.wrap t22909.f0)), (85, .int .i64 x22495), (86, .bool (!(decide ((IntKind.i64.wrap t22909.f0) = x22495)))), (87, .bool (!(decide ((IntKind.i64.wrap t22909.f0) = x22495)))), (89, .bool (!(decide ((IntKind.i64.wrap t22909.f0) = x22495))))] (by kernel_rfl) ?_
                          by_cases h22996 : (IntKind.i64.wrap t22909.f0) = x22495
                          · rw [if_pos h22996] at H
                            refine EL.keep [8, 9, 11, 30, 31, 32, 77, 78, 79, 80, 81, 82, 83, 84, 85, 86, 87, 89] [(8, .pointer (some ⟨g21753, 0, none⟩)), (9, .pointer (some ⟨g21764, 0, none⟩)), (11, .int .i64 x22495), (30, .slice (some ⟨g11527, 0, none⟩) l11528.length 2), (31, .int .i64 (l11528.length : Int)), (32, .int .i64 x15357), (77, .int .i64 x22495), (78, .pointer (some ⟨g21753, 1, none⟩)), (79, .int .i64 ((l11528.getD x15357.toNat zS47).f1)), (80, .bool (true)), (81, .bool (true)), (82, .pointer (some ⟨g22914, 0, none⟩)), (83, .int .i32 t22909.f0), (84, .int .i64 (IntKind.i64.wrap t22909.f0)), (85, .int .i64 x22495), (86, .bool (!(decide ((IntKind.i64.wrap t22909.f0) = x22495)))), (87, .bool (!(decide ((IntKind.i64.wrap t22909.f0) = x22495)))), (89, .bool (!(decide ((IntKind.i64.wrap t22909.f0) = x22495))))] (by kernel_rfl) ?_
                            refine EL.as' [(8, .pointer (some ⟨g21753, 0, none⟩)), (9, .pointer (some ⟨g21764, 0, none⟩)), (11, .int .i64 x22495), (30, .slice (some ⟨g11527, 0, none⟩) l11528.length 2), (31, .int .i64 (l11528.length : Int)), (32, .int .i64 x15357), (77, .int .i64 x22495), (78, .pointer (some ⟨g21753, 1, none⟩)), (79, .int .i64 ((l11528.getD x15357.toNat zS47).f1)), (80, .bool (true)), (81, .bool (true)), (82, .pointer (some ⟨g22914, 0, none⟩)), (83, .int .i32 t22909.f0), (84, .int .i64 (IntKind.i64.wrap t22909.f0)), (85, .int .i64 x22495), (86, .bool (false)), (87, .bool (false)), (89, .bool (false))] (by simp only [dec_t h22996, Bool.not_true, Bool.not_false]) ?_
                            refine EL.quick 5 [8, 9, 11, 30, 31, 32, 77, 78, 79, 80, 81, 82, 83, 84, 85, 86, 87, 89, 90, 91, 92, 93, 94] [(8, .pointer (some ⟨g21753, 0, none⟩)), (9, .pointer (some ⟨g21764, 0, none⟩)), (11, .int .i64 x22495), (30, .slice (some ⟨g11527, 0, none⟩) l11528.length 2), (31, .int .i64 (l11528.length : Int)), (32, .int .i64 x15357), (77, .int .i64 x22495), (78, .pointer (some ⟨g21753, 1, none⟩)), (79, .int .i64 ((l11528.getD x15357.toNat zS47).f1)), (80, .bool (true)), (81, .bool (true)), (82, .pointer (some ⟨g22914, 0, none⟩)), (83, .int .i32 t22909.f0), (84, .int .i64 (IntKind.i64.wrap t22909.f0)), (85, .int .i64 x22495), (86, .bool (false)), (87, .bool (false)), (89, .bool (false)), (90, .pointer (some ⟨g21764, 0, none⟩)), (91, .int .i64 x22495), (92, .int .i64 (IntKind.i64.wrap (1000 + x22495))), (93, .int .i32 (IntKind.i32.wrap (IntKind.i64.wrap (1000 + x22495)))), (94, .agg #[.int .i32 (IntKind.i32.wrap (IntKind.i64.wrap (1000 + x22495))), .int .i64 0, .int .i64 0, .slice none ([] : List Int).length 0, .int .i32 0, .int .i32 0, .int .i32 0, .int .i32 0, .int .i64 0, .int .i64 0, .int .u32 0, .int .i64 0])] (by kernel_rfl) ?_
                            have hS := St.nilR hS (Kd.int .i32)
                            have hS : St B _ (Ass.box 90 g21764 [.slice A22491 x22490.length C22492, .int .i64 t22907, .int .i64 t22908] :: Ass.own 37 kS37 A22491 C22492 x22490 :: Ass.box 37 g22914 [.int .i32 t22909.f0, .int .i64 t22909.f1, .int .i64 t22909.f2, .slice A22911 t22909.f3.length C22912, .int .i32 t22909.f4.f0, .int .i32 t22909.f4.f1, .int .i32 t22909.f4.f2, .int .i32 t22909.f4.f3, .int .i64 t22909.f5, .int .i64 t22909.f6, .int .u32 t22909.f7, .int .i64 t22909.f8] :: Ass.box 47 g21753 [.int .i64 ((l11528.getD x15357.toNat zS47).f0), .int .i64 ((l11528.getD x15357.toNat zS47).f1)] :: Ass.own 47 kS47 (some ⟨g11527, 0, none⟩) 2 l11528 :: os) (Ro.sl (Kd.int .i32) none 0 ([] : List Int) :: Ro.sl (Kd.int .i32) none 0 ([] : List Int) :: Ro.sl (Kd.int .i32) A22911 C22912 t22909.f3 :: rs) := hS.re [2, 2] [] rfl (sub_cons 0 rfl sub_self)
                            obtain ⟨t22997, t22998, t22999, t23000, hc23003, H⟩ := b4_out H
                            refine EL.of (EO.callD 19 [.pointer (some ⟨g21764, 0, none⟩), .agg #[.int .i32 (IntKind.i32.wrap (IntKind.i64.wrap (1000 + x22495))), .int .i64 0, .int .i64 0, .slice none ([] : List Int).length 0, .int .i32 0, .int .i32 0, .int .i32 0, .int .i32 0, .int .i64 0, .int .i64 0, .int .u32 0, .int .i64 0]] _ 95 (by kernel_rfl) (by kernel_rfl) (by kernel_rfl) (ring_Ring_Push.calls hc23003 hS) ?_)
                            rintro v w ⟨A23001, C23002, rfl, hS⟩
                            refine EL.quick 3 [8, 9, 11, 30, 31, 32, 77, 78, 79, 80, 81, 82, 83, 84, 85, 86, 87, 90, 91, 92, 93, 94, 95, 96, 98] [(8, .pointer (some ⟨g21753, 0, none⟩)), (9, .pointer (some ⟨g21764, 0, none⟩)), (11, .int .i64 x22495), (30, .slice (some ⟨g11527, 0, none⟩) l11528.length 2), (31, .int .i64 (l11528.length : Int)), (32, .int .i64 x15357), (77, .int .i64 x22495), (78, .pointer (some ⟨g21753, 1, none⟩)), (79, .int .i64 ((l11528.getD x15357.toNat zS47).f1)), (80, .bool (true)), (81, .bool (true)), (82, .pointer (some ⟨g22914, 0, none⟩)), (83, .int .i32 t22909.f0), (84, .int .i64 (IntKind.i64.wrap t22909.f0)), (85, .int .i64 x22495), (86, .bool (false)), (87, .bool (false)), (90, .pointer (some ⟨g21764, 0, none⟩)), (91, .int .i64 x22495), (92, .int .i64 (IntKind.i64.wrap (1000 + x22495))), (93, .int .i32 (IntKind.i32.wrap (IntKind.i64.wrap (1000 + x22495)))), (94, .agg #[.int .i32 (IntKind.i32.wrap (IntKind.i64.wrap (1000 + x22495))), .int .i64 0, .int .i64 0, .slice none ([] : List Int).length 0, .int .i32 0, .int .i32 0, .int .i32 0, .int .i32 0, .int .i64 0, .int .i64 0, .int .u32 0, .int .i64 0]), (95, .bool (t23000)), (96, .bool (!(t23000))), (98, .bool (!(t23000)))] (by kernel_rfl) ?_
                            by_cases h23004 : t23000 = true
                            · rw [if_pos h23004] at H
                              refine EL.keep [8, 9, 11, 30, 31, 32, 77, 78, 79, 80, 81, 82, 83, 84, 85, 86, 87, 90, 91, 92, 93, 94, 95, 96, 98] [(8, .pointer (some ⟨g21753, 0, none⟩)), (9, .pointer (some ⟨g21764, 0, none⟩)), (11, .int .i64 x22495), (30, .slice (some ⟨g11527, 0, none⟩) l11528.length 2), (31, .int .i64 (l11528.length : Int)), (32, .int .i64 x15357), (77, .int .i64 x22495), (78, .pointer (some ⟨g21753, 1, none⟩)), (79, .int .i64 ((l11528.getD x15357.toNat zS47).f1)), (80, .bool (true)), (81, .bool (true)), (82, .pointer (some ⟨g22914, 0, none⟩)), (83, .int .i32 t22909.f0), (84, .int .i64 (IntKind.i64.wrap t22909.f0)), (85, .int .i64 x22495), (86, .bool (false)), (87, .bool (false)), (90, .pointer (some ⟨g21764, 0, none⟩)), (91, .int .i64 x22495), (92, .int .i64 (IntKind.i64.wrap (1000 + x22495))), (93, .int .i32 (IntKind.i32.wrap (IntKind.i64.wrap (1000 + x22495)))), (94, .agg #[.int .i32 (IntKind.i32.wrap (IntKind.i64.wrap (1000 + x22495))), .int .i64 0, .int .i64 0, .slice none ([] : List Int).length 0, .int .i32 0, .int .i32 0, .int .i32 0, .int .i32 0, .int .i64 0, .int .i64 0, .int .u32 0, .int .i64 0]), (95, .bool (t23000)), (96, .bool (!(t23000))), (98, .bool (!(t23000)))] (by kernel_rfl) ?_
                              refine EL.as' [(8, .pointer (some ⟨g21753, 0, none⟩)), (9, .pointer (some ⟨g21764, 0, none⟩)), (11, .int .i64 x22495), (30, .slice (some ⟨g11527, 0, none⟩) l11528.length 2), (31, .int .i64 (l11528.length : Int)), (32, .int .i64 x15357), (77, .int .i64 x22495), (78, .pointer (some ⟨g21753, 1, none⟩)), (79, .int .i64 ((l11528.getD x15357.toNat zS47).f1)), (80, .bool (true)), (81, .bool (true)), (82, .pointer (some ⟨g22914, 0, none⟩)), (83, .int .i32 t22909.f0), (84, .int .i64 (IntKind.i64.wrap t22909.f0)), (85, .int .i64 x22495), (86, .bool (false)), (87, .bool (false)), (90, .pointer (some ⟨g21764, 0, none⟩)), (91, .int .i64 x22495), (92, .int .i64 (IntKind.i64.wrap (1000 + x22495))), (93, .int .i32 (IntKind.i32.wrap (IntKind.i64.wrap (1000 + x22495)))), (94, .agg #[.int .i32 (IntKind.i32.wrap (IntKind.i64.wrap (1000 + x22495))), .int .i64 0, .int .i64 0, .slice none ([] : List Int).length 0, .int .i32 0, .int .i32 0, .int .i32 0, .int .i32 0, .int .i64 0, .int .i64 0, .int .u32 0, .int .i64 0]), (95, .bool (true)), (96, .bool (false)), (98, .bool (false))] (by simp only [h23004, Bool.not_true, Bool.not_false]) ?_
                              refine EL.quick 2 [8, 9, 11, 30, 31, 32, 77, 78, 79, 80, 81, 82, 83, 84, 85, 86, 87, 90, 91, 92, 93, 94, 95, 96, 98, 99, 100] [(8, .pointer (some ⟨g21753, 0, none⟩)), (9, .pointer (some ⟨g21764, 0, none⟩)), (11, .int .i64 x22495), (30, .slice (some ⟨g11527, 0, none⟩) l11528.length 2), (31, .int .i64 (l11528.length : Int)), (32, .int .i64 x15357), (77, .int .i64 x22495), (78, .pointer (some ⟨g21753, 1, none⟩)), (79, .int .i64 ((l11528.getD x15357.toNat zS47).f1)), (80, .bool (true)), (81, .bool (true)), (82, .pointer (some ⟨g22914, 0, none⟩)), (83, .int .i32 t22909.f0), (84, .int .i64 (IntKind.i64.wrap t22909.f0)), (85, .int .i64 x22495), (86, .bool (false)), (87, .bool (false)), (90, .pointer (some ⟨g21764, 0, none⟩)), (91, .int .i64 x22495), (92, .int .i64 (IntKind.i64.wrap (1000 + x22495))), (93, .int .i32 (IntKind.i32.wrap (IntKind.i64.wrap (1000 + x22495)))), (94, .agg #[.int .i32 (IntKind.i32.wrap (IntKind.i64.wrap (1000 + x22495))), .int .i64 0, .int .i64 0, .slice none ([] : List Int).length 0, .int .i32 0, .int .i32 0, .int .i32 0, .int .i32 0, .int .i64 0, .int .i64 0, .int .u32 0, .int .i64 0]), (95, .bool (true)), (96, .bool (false)), (98, .bool (false)), (99, .pointer (some ⟨g21764, 0, none⟩)), (100, .agg #[.int .i32 0, .int .i64 0, .int .i64 0, .slice none ([] : List Int).length 0, .int .i32 0, .int .i32 0, .int .i32 0, .int .i32 0, .int .i64 0, .int .i64 0, .int .u32 0, .int .i64 0])] (by kernel_rfl) ?_
                              have hS : St B _ (Ass.box 90 g21764 [.slice A23001 t22997.length C23002, .int .i64 t22998, .int .i64 t22999] :: Ass.own 37 kS37 A23001 C23002 t22997 :: Ass.box 37 g22914 [.int .i32 t22909.f0, .int .i64 t22909.f1, .int .i64 t22909.f2, .slice A22911 t22909.f3.length C22912, .int .i32 t22909.f4.f0, .int .i32 t22909.f4.f1, .int .i32 t22909.f4.f2, .int .i32 t22909.f4.f3, .int .i64 t22909.f5, .int .i64 t22909.f6, .int .u32 t22909.f7, .int .i64 t22909.f8] :: Ass.box 47 g21753 [.int .i64 ((l11528.getD x15357.toNat zS47).f0), .int .i64 ((l11528.getD x15357.toNat zS47).f1)] :: Ass.own 47 kS47 (some ⟨g11527, 0, none⟩) 2 l11528 :: os) (Ro.sl (Kd.int .i32) none 0 ([] : List Int) :: Ro.sl (Kd.int .i32) none 0 ([] : List Int) :: Ro.sl (Kd.int .i32) none 0 ([] : List Int) :: Ro.sl (Kd.int .i32) A22911 C22912 t22909.f3 :: rs) := hS.re [1, 1] [] rfl (sub_cons 0 rfl sub_self)
                              obtain ⟨t23005, t23006, t23007, t23008, hc23011, H⟩ := b4_out H
                              refine EL.of (EO.callD 19 [.pointer (some ⟨g21764, 0, none⟩), .agg #[.int .i32 0, .int .i64 0, .int .i64 0, .slice none ([] : List Int).length 0, .int .i32 0, .int .i32 0, .int .i32 0, .int .i32 0, .int .i64 0, .int .i64 0, .int .u32 0, .int .i64 0]] _ 101 (by kernel_rfl) (by kernel_rfl) (by kernel_rfl) (ring_Ring_Push.calls hc23011 hS) ?_)
                              rintro v w ⟨A23009, C23010, rfl, hS⟩
                              refine EL.quick 1 [8, 9, 11, 30, 31, 32, 77, 78, 79, 80, 81, 82, 83, 84, 85, 86, 87, 90, 91, 92, 93, 94, 95, 96, 99, 100, 101, 102] [(8, .pointer (some ⟨g21753, 0, none⟩)), (9, .pointer (some ⟨g21764, 0, none⟩)), (11, .int .i64 x22495), (30, .slice (some ⟨g11527, 0, none⟩) l11528.length 2), (31, .int .i64 (l11528.length : Int)), (32, .int .i64 x15357), (77, .int .i64 x22495), (78, .pointer (some ⟨g21753, 1, none⟩)), (79, .int .i64 ((l11528.getD x15357.toNat zS47).f1)), (80, .bool (true)), (81, .bool (true)), (82, .pointer (some ⟨g22914, 0, none⟩)), (83, .int .i32 t22909.f0), (84, .int .i64 (IntKind.i64.wrap t22909.f0)), (85, .int .i64 x22495), (86, .bool (false)), (87, .bool (false)), (90, .pointer (some ⟨g21764, 0, none⟩)), (91, .int .i64 x22495), (92, .int .i64 (IntKind.i64.wrap (1000 + x22495))), (93, .int .i32 (IntKind.i32.wrap (IntKind.i64.wrap (1000 + x22495)))), (94, .agg #[.int .i32 (IntKind.i32.wrap (IntKind.i64.wrap (1000 + x22495))), .int .i64 0, .int .i64 0, .slice none ([] : List Int).length 0, .int .i32 0, .int .i32 0, .int .i32 0, .int .i32 0, .int .i64 0, .int .i64 0, .int .u32 0, .int .i64 0]), (95, .bool (true)), (96, .bool (false)), (99, .pointer (some ⟨g21764, 0, none⟩)), (100, .agg #[.int .i32 0, .int .i64 0, .int .i64 0, .slice none ([] : List Int).length 0, .int .i32 0, .int .i32 0, .int .i32 0, .int .i32 0, .int .i64 0, .int .i64 0, .int .u32 0, .int .i64 0]), (101, .bool (t23008)), (102, .bool (t23008))] (by kernel_rfl) ?_
                              refine EL.done (by kernel_rfl) ?_
                              refine EQ.to ?_
                              refine EQ.keep [8, 9, 11, 30, 31, 32, 102] [(8, .pointer (some ⟨g21753, 0, none⟩)), (9, .pointer (some ⟨g21764, 0, none⟩)), (11, .int .i64 x22495), (30, .slice (some ⟨g11527, 0, none⟩) l11528.length 2), (31, .int .i64 (l11528.length : Int)), (32, .int .i64 x15357), (102, .bool (t23008))] (by kernel_rfl) ?_
                              exact fun a ha => ⟨t23005, t23006, t23007, t23008, A23009, C23010, ha, (hS.re [4, 4, 4, 4, 4] [] rfl (sub_cons 3 rfl (sub_tail (sub_tail (sub_tail (sub_tail (sub_self))))))), H⟩
                            · rw [if_neg h23004] at H
                              refine EL.keep [8, 9, 11, 30, 31, 32, 77, 78, 79, 80, 81, 82, 83, 84, 85, 86, 87, 90, 91, 92, 93, 94, 95, 96, 98] [(8, .pointer (some ⟨g21753, 0, none⟩)), (9, .pointer (some ⟨g21764, 0, none⟩)), (11, .int .i64 x22495), (30, .slice (some ⟨g11527, 0, none⟩) l11528.length 2), (31, .int .i64 (l11528.length : Int)), (32, .int .i64 x15357), (77, .int .i64 x22495), (78, .pointer (some ⟨g21753, 1, none⟩)), (79, .int .i64 ((l11528.getD x15357.toNat zS47).f1)), (80, .bool (true)), (81, .bool (true)), (82, .pointer (some ⟨g22914, 0, none⟩)), (83, .int .i32 t22909.f0), (84, .int .i64 (IntKind.i64.wrap t22909.f0)), (85, .int .i64 x22495), (86, .bool (false)), (87, .bool (false)), (90, .pointer (some ⟨g21764, 0, none⟩)), (91, .int .i64 x22495), (92, .int .i64 (IntKind.i64.wrap (1000 + x22495))), (93, .int .i32 (IntKind.i32.wrap (IntKind.i64.wrap (1000 + x22495)))), (94, .agg #[.int .i32 (IntKind.i32.wrap (IntKind.i64.wrap (1000 + x22495))), .int .i64 0, .int .i64 0, .slice none ([] : List Int).length 0, .int .i32 0, .int .i32 0, .int .i32 0, .int .i32 0, .int .i64 0, .int .i64 0, .int .u32 0, .int .i64 0]), (95, .bool (t23000)), (96, .bool (!(t23000))), (98, .bool (!(t23000)))] (by kernel_rfl) ?_
                              refine EL.as' [(8, .pointer (some ⟨g21753, 0, none⟩)), (9, .pointer (some ⟨g21764, 0, none⟩)), (11, .int .i64 x22495), (30, .slice (some ⟨g11527, 0, none⟩) l11528.length 2), (31, .int .i64 (l11528.length : Int)), (32, .int .i64 x15357), (77, .int .i64 x22495), (78, .pointer (some ⟨g21753, 1, none⟩)), (79, .int .i64 ((l11528.getD x15357.toNat zS47).f1)), (80, .bool (true)), (81, .bool (true)), (82, .pointer (some ⟨g22914, 0, none⟩)), (83, .int .i32 t22909.f0), (84, .int .i64 (IntKind.i64.wrap t22909.f0)), (85, .int .i64 x22495), (86, .bool (false)), (87, .bool (false)), (90, .pointer (some ⟨g21764, 0, none⟩)), (91, .int .i64 x22495), (92, .int .i64 (IntKind.i64.wrap (1000 + x22495))), (93, .int .i32 (IntKind.i32.wrap (IntKind.i64.wrap (1000 + x22495)))), (94, .agg #[.int .i32 (IntKind.i32.wrap (IntKind.i64.wrap (1000 + x22495))), .int .i64 0, .int .i64 0, .slice none ([] : List Int).length 0, .int .i32 0, .int .i32 0, .int .i32 0, .int .i32 0, .int .i64 0, .int .i64 0, .int .u32 0, .int .i64 0]), (95, .bool (false)), (96, .bool (true)), (98, .bool (true))] (by simp only [(Bool.eq_false_iff.2 h23004), Bool.not_true, Bool.not_false]) ?_
                              refine EL.quick 4 [8, 9, 11, 30, 31, 32, 77, 78, 79, 80, 81, 82, 83, 84, 85, 86, 87, 90, 91, 92, 93, 94, 95, 96, 102] [(8, .pointer (some ⟨g21753, 0, none⟩)), (9, .pointer (some ⟨g21764, 0, none⟩)), (11, .int .i64 x22495), (30, .slice (some ⟨g11527, 0, none⟩) l11528.length 2), (31, .int .i64 (l11528.length : Int)), (32, .int .i64 x15357), (77, .int .i64 x22495), (78, .pointer (some ⟨g21753, 1, none⟩)), (79, .int .i64 ((l11528.getD x15357.toNat zS47).f1)), (80, .bool (true)), (81, .bool (true)), (82, .pointer (some ⟨g22914, 0, none⟩)), (83, .int .i32 t22909.f0), (84, .int .i64 (IntKind.i64.wrap t22909.f0)), (85, .int .i64 x22495), (86, .bool (false)), (87, .bool (false)), (90, .pointer (some ⟨g21764, 0, none⟩)), (91, .int .i64 x22495), (92, .int .i64 (IntKind.i64.wrap (1000 + x22495))), (93, .int .i32 (IntKind.i32.wrap (IntKind.i64.wrap (1000 + x22495)))), (94, .agg #[.int .i32 (IntKind.i32.wrap (IntKind.i64.wrap (1000 + x22495))), .int .i64 0, .int .i64 0, .slice none ([] : List Int).length 0, .int .i32 0, .int .i32 0, .int .i32 0, .int .i32 0, .int .i64 0, .int .i64 0, .int .u32 0, .int .i64 0]), (95, .bool (false)), (96, .bool (true)), (102, .bool (true))] (by kernel_rfl) ?_
                              refine EL.done (by kernel_rfl) ?_
                              refine EQ.to ?_
                              refine EQ.keep [8, 9, 11, 30, 31, 32, 102] [(8, .pointer (some ⟨g21753, 0, none⟩)), (9, .pointer (some ⟨g21764, 0, none⟩)), (11, .int .i64 x22495), (30, .slice (some ⟨g11527, 0, none⟩) l11528.length 2), (31, .int .i64 (l11528.length : Int)), (32, .int .i64 x15357), (102, .bool (true))] (by kernel_rfl) ?_
                              exact fun a ha => ⟨t22997, t22998, t22999, true, A23001, C23002, ha, (hS.re [4, 4, 4, 4, 4] [] rfl (sub_cons 2 rfl (sub_tail (sub_tail (sub_tail (sub_self)))))), H⟩
                          · rw [if_neg h22996] at H
                            refine EL.keep [8, 9, 11, 30, 31, 32, 77, 78, 79, 80, 81, 82, 83, 84, 85, 86, 87, 89] [(8, .pointer (some ⟨g21753, 0, none⟩)), (9, .pointer (some ⟨g21764, 0, none⟩)), (11, .int .i64 x22495), (30, .slice (some ⟨g11527, 0, none⟩) l11528.length 2), (31, .int .i64 (l11528.length : Int)), (32, .int .i64 x15357), (77, .int .i64 x22495), (78, .pointer (some ⟨g21753, 1, none⟩)), (79, .int .i64 ((l11528.getD x15357.toNat zS47).f1)), (80, .bool (true)), (81, .bool (true)), (82, .pointer (some ⟨g22914, 0, none⟩)), (83, .int .i32 t22909.f0), (84, .int .i64 (IntKind.i64.wrap t22909.f0)), (85, .int .i64 x22495), (86, .bool (!(decide ((IntKind.i64.wrap t22909.f0) = x22495)))), (87, .bool (!(decide ((IntKind.i64.wrap t22909.f0) = x22495)))), (89, .bool (!(decide ((IntKind.i64.wrap t22909.f0) = x22495))))] (by kernel_rfl) ?_
                            refine EL.as' [(8, .pointer (some ⟨g21753, 0, none⟩)), (9, .pointer (some ⟨g21764, 0, none⟩)), (11, .int .i64 x22495), (30, .slice (some ⟨g11527, 0, none⟩) l11528.length 2), (31, .int .i64 (l11528.length : Int)), (32, .int .i64 x15357), (77, .int .i64 x22495), (78, .pointer (some ⟨g21753, 1, none⟩)), (79, .int .i64 ((l11528.getD x15357.toNat zS47).f1)), (80, .bool (true)), (81, .bool (true)), (82, .pointer (some ⟨g22914, 0, none⟩)), (83, .int .i32 t22909.f0), (84, .int .i64 (IntKind.i64.wrap t22909.f0)), (85, .int .i64 x22495), (86, .bool (true)), (87, .bool (true)), (89, .bool (true))] (by simp only [dec_f h22996, Bool.not_true, Bool.not_false]) ?_
                            refine EL.quick 13 [8, 9, 11, 30, 31, 32, 77, 78, 79, 80, 81, 82, 83, 84, 85, 86, 87, 102] [(8, .pointer (some ⟨g21753, 0, none⟩)), (9, .pointer (some ⟨g21764, 0, none⟩)), (11, .int .i64 x22495), (30, .slice (some ⟨g11527, 0, none⟩) l11528.length 2), (31, .int .i64 (l11528.length : Int)), (32, .int .i64 x15357), (77, .int .i64 x22495), (78, .pointer (some ⟨g21753, 1, none⟩)), (79, .int .i64 ((l11528.getD x15357.toNat zS47).f1)), (80, .bool (true)), (81, .bool (true)), (82, .pointer (some ⟨g22914, 0, none⟩)), (83, .int .i32 t22909.f0), (84, .int .i64 (IntKind.i64.wrap t22909.f0)), (85, .int .i64 x22495), (86, .bool (true)), (87, .bool (true)), (102, .bool (true))] (by kernel_rfl) ?_
                            refine EL.done (by kernel_rfl) ?_
                            refine EQ.to ?_
                            refine EQ.keep [8, 9, 11, 30, 31, 32, 102] [(8, .pointer (some ⟨g21753, 0, none⟩)), (9, .pointer (some ⟨g21764, 0, none⟩)), (11, .int .i64 x22495), (30, .slice (some ⟨g11527, 0, none⟩) l11528.length 2), (31, .int .i64 (l11528.length : Int)), (32, .int .i64 x15357), (102, .bool (true))] (by kernel_rfl) ?_
                            exact fun a ha => ⟨x22490, t22907, t22908, true, A22491, C22492, ha, (hS.re [4, 4, 2, 4, 4] [] rfl (sub_cons 0 rfl (sub_tail (sub_self)))), H⟩
                        · rw [if_neg h22995] at H
                          refine EL.keep [8, 9, 11, 12, 30, 31, 32, 76, 77, 78, 79, 80, 81] [(8, .pointer (some ⟨g21753, 0, none⟩)), (9, .pointer (some ⟨g21764, 0, none⟩)), (11, .int .i64 x22495), (12, .pointer (some ⟨g22914, 0, none⟩)), (30, .slice (some ⟨g11527, 0, none⟩) l11528.length 2), (31, .int .i64 (l11528.length : Int)), (32, .int .i64 x15357), (76, .bool (false)), (77, .int .i64 x22495), (78, .pointer (some ⟨g21753, 1, none⟩)), (79, .int .i64 ((l11528.getD x15357.toNat zS47).f1)), (80, .bool (decide (x22495 < ((l11528.getD x15357.toNat zS47).f1)))), (81, .bool (decide (x22495 < ((l11528.getD x15357.toNat zS47).f1))))] (by kernel_rfl) ?_
                          refine EL.as' [(8, .pointer (some ⟨g21753, 0, none⟩)), (9, .pointer (some ⟨g21764, 0, none⟩)), (11, .int .i64 x22495), (12, .pointer (some ⟨g22914, 0, none⟩)), (30, .slice (some ⟨g11527, 0, none⟩) l11528.length 2), (31, .int .i64 (l11528.length : Int)), (32, .int .i64 x15357), (76, .bool (false)), (77, .int .i64 x22495), (78, .pointer (some ⟨g21753, 1, none⟩)), (79, .int .i64 ((l11528.getD x15357.toNat zS47).f1)), (80, .bool (false)), (81, .bool (false))] (by simp only [dec_f h22995, Bool.not_true, Bool.not_false]) ?_
                          refine EL.quick 13 [8, 9, 11, 30, 31, 32, 77, 78, 79, 80, 81, 87, 89, 90, 91, 92, 93, 94] [(8, .pointer (some ⟨g21753, 0, none⟩)), (9, .pointer (some ⟨g21764, 0, none⟩)), (11, .int .i64 x22495), (30, .slice (some ⟨g11527, 0, none⟩) l11528.length 2), (31, .int .i64 (l11528.length : Int)), (32, .int .i64 x15357), (77, .int .i64 x22495), (78, .pointer (some ⟨g21753, 1, none⟩)), (79, .int .i64 ((l11528.getD x15357.toNat zS47).f1)), (80, .bool (false)), (81, .bool (false)), (87, .bool (false)), (89, .bool (false)), (90, .pointer (some ⟨g21764, 0, none⟩)), (91, .int .i64 x22495), (92, .int .i64 (IntKind.i64.wrap (1000 + x22495))), (93, .int .i32 (IntKind.i32.wrap (IntKind.i64.wrap (1000 + x22495)))), (94, .agg #[.int .i32 (IntKind.i32.wrap (IntKind.i64.wrap (1000 + x22495))), .int .i64 0, .int .i64 0, .slice none ([] : List Int).length 0, .int .i32 0, .int .i32 0, .int .i32 0, .int .i32 0, .int .i64 0, .int .i64 0, .int .u32 0, .int .i64 0])] (by kernel_rfl) ?_
                          have hS := St.nilR hS (Kd.int .i32)
                          have hS : St B _ (Ass.box 90 g21764 [.slice A22491 x22490.length C22492, .int .i64 t22907, .int .i64 t22908] :: Ass.own 37 kS37 A22491 C22492 x22490 :: Ass.box 37 g22914 [.int .i32 t22909.f0, .int .i64 t22909.f1, .int .i64 t22909.f2, .slice A22911 t22909.f3.length C22912, .int .i32 t22909.f4.f0, .int .i32 t22909.f4.f1, .int .i32 t22909.f4.f2, .int .i32 t22909.f4.f3, .int .i64 t22909.f5, .int .i64 t22909.f6, .int .u32 t22909.f7, .int .i64 t22909.f8] :: Ass.box 47 g21753 [.int .i64 ((l11528.getD x15357.toNat zS47).f0), .int .i64 ((l11528.getD x15357.toNat zS47).f1)] :: Ass.own 47 kS47 (some ⟨g11527, 0, none⟩) 2 l11528 :: os) (Ro.sl (Kd.int .i32) none 0 ([] : List Int) :: Ro.sl (Kd.int .i32) none 0 ([] : List Int) :: Ro.sl (Kd.int .i32) A22911 C22912 t22909.f3 :: rs) := hS.re [2, 2] [] rfl (sub_cons 0 rfl sub_self)
                          obtain ⟨t23012, t23013, t23014, t23015, hc23018, H⟩ := b4_out H
                          refine EL.of (EO.callD 19 [.pointer (some ⟨g21764, 0, none⟩), .agg #[.int .i32 (IntKind.i32.wrap (IntKind.i64.wrap (1000 + x22495))), .int .i64 0, .int .i64 0, .slice none ([] : List Int).length 0, .int .i32 0, .int .i32 0, .int .i32 0, .int .i32 0, .int .i64 0, .int .i64 0, .int .u32 0, .int .i64 0]] _ 95 (by kernel_rfl) (by kernel_rfl) (by kernel_rfl) (ring_Ring_Push.calls hc23018 hS) ?_)
                          rintro v w ⟨A23016, C23017, rfl, hS⟩
                          refine EL.quick 3 [8, 9, 11, 30, 31, 32, 77, 78, 79, 80, 81, 87, 90, 91, 92, 93, 94, 95, 96, 98] [(8, .pointer (some ⟨g21753, 0, none⟩)), (9, .pointer (some ⟨g21764, 0, none⟩)), (11, .int .i64 x22495), (30, .slice (some ⟨g11527, 0, none⟩) l11528.length 2), (31, .int .i64 (l11528.length : Int)), (32, .int .i64 x15357), (77, .int .i64 x22495), (78, .pointer (some ⟨g21753, 1, none⟩)), (79, .int .i64 ((l11528.getD x15357.toNat zS47).f1)), (80, .bool (false)), (81, .bool (false)), (87, .bool (false)), (90, .pointer (some ⟨g21764, 0, none⟩)), (91, .int .i64 x22495), (92, .int .i64 (IntKind.i64.wrap (1000 + x22495))), (93, .int .i32 (IntKind.i32.wrap (IntKind.i64.wrap (1000 + x22495)))), (94, .agg #[.int .i32 (IntKind.i32.wrap (IntKind.i64.wrap (1000 + x22495))), .int .i64 0, .int .i64 0, .slice none ([] : List Int).length 0, .int .i32 0, .int .i32 0, .int .i32 0, .int .i32 0, .int .i64 0, .int .i64 0, .int .u32 0, .int .i64 0]), (95, .bool (t23015)), (96, .bool (!(t23015))), (98, .bool (!(t23015)))] (by kernel_rfl) ?_
                          by_cases h23019 : t23015 = true
                          · rw [if_pos h23019] at H
                            refine EL.keep [8, 9, 11, 30, 31, 32, 77, 78, 79, 80, 81, 87, 90, 91, 92, 93, 94, 95, 96, 98] [(8, .pointer (some ⟨g21753, 0, none⟩)), (9, .pointer (some ⟨g21764, 0, none⟩)), (11, .int .i64 x22495), (30, .slice (some ⟨g11527, 0, none⟩) l11528.length 2), (31, .int .i64 (l11528.length : Int)), (32, .int .i64 x15357), (77, .int .i64 x22495), (78, .pointer (some ⟨g21753, 1, none⟩)), (79, .int .i64 ((l11528.getD x15357.toNat zS47).f1)), (80, .bool (false)), (81, .bool (false)), (87, .bool (false)), (90, .pointer (some ⟨g21764, 0, none⟩)), (91, .int .i64 x22495), (92, .int .i64 (IntKind.i64.wrap (1000 + x22495))), (93, .int .i32 (IntKind.i32.wrap (IntKind.i64.wrap (1000 + x22495)))), (94, .agg #[.int .i32 (IntKind.i32.wrap (IntKind.i64.wrap (1000 + x22495))), .int .i64 0, .int .i64 0, .slice none ([] : List Int).length 0, .int .i32 0, .int .i32 0, .int .i32 0, .int .i32 0, .int .i64 0, .int .i64 0, .int .u32 0, .int .i64 0]), (95, .bool (t23015)), (96, .bool (!(t23015))), (98, .bool (!(t23015)))] (by kernel_rfl) ?_
                            refine EL.as' [(8, .pointer (some ⟨g21753, 0, none⟩)), (9, .pointer (some ⟨g21764, 0, none⟩)), (11, .int .i64 x22495), (30, .slice (some ⟨g11527, 0, none⟩) l11528.length 2), (31, .int .i64 (l11528.length : Int)), (32, .int .i64 x15357), (77, .int .i64 x22495), (78, .pointer (some ⟨g21753, 1, none⟩)), (79, .int .i64 ((l11528.getD x15357.toNat zS47).f1)), (80, .bool (false)), (81, .bool (false)), (87, .bool (false)), (90, .pointer (some ⟨g21764, 0, none⟩)), (91, .int .i64 x22495), (92, .int .i64 (IntKind.i64.wrap (1000 + x22495))), (93, .int .i32 (IntKind.i32.wrap (IntKind.i64.wrap (1000 + x22495)))), (94, .agg #[.int .i32 (IntKind.i32.wrap (IntKind.i64.wrap (1000 + x22495))), .int .i64 0, .int .i64 0, .slice none ([] : List Int).length 0, .int .i32 0, .int .i32 0, .int .i32 0, .int .i32 0, .int .i64 0, .int .i64 0, .int .u32 0, .int .i64 0]), (95, .bool (true)), (96, .bool (false)), (98, .bool (false))] (by simp only [h23019, Bool.not_true, Bool.not_false]) ?_
                            refine EL.quick 2 [8, 9, 11, 30, 31, 32, 77, 78, 79, 80, 81, 87, 90, 91, 92, 93, 94, 95, 96, 98, 99, 100] [(8, .pointer (some ⟨g21753, 0, none⟩)), (9, .pointer (some ⟨g21764, 0, none⟩)), (11, .int .i64 x22495), (30, .slice (some ⟨g11527, 0, none⟩) l11528.length 2), (31, .int .i64 (l11528.length : Int)), (32, .int .i64 x15357), (77, .int .i64 x22495), (78, .pointer (some ⟨g21753, 1, none⟩)), (79, .int .i64 ((l11528.getD x15357.toNat zS47).f1)), (80, .bool (false)), (81, .bool (false)), (87, .bool (false)), (90, .pointer (some ⟨g21764, 0, none⟩)), (91, .int .i64 x22495), (92, .int .i64 (IntKind.i64.wrap (1000 + x22495))), (93, .int .i32 (IntKind.i32.wrap (IntKind.i64.wrap (1000 + x22495)))), (94, .agg #[.int .i32 (IntKind.i32.wrap (IntKind.i64.wrap (1000 + x22495))), .int .i64 0, .int .i64 0, .slice none ([] : List Int).length 0, .int .i32 0, .int .i32 0, .int .i32 0, .int .i32 0, .int .i64 0, .int .i64 0, .int .u32 0, .int .i64 0]), (95, .bool (true)), (96, .bool (false)), (98, .bool (false)), (99, .pointer (some ⟨g21764, 0, none⟩)), (100, .agg #[.int .i32 0, .int .i64 0, .int .i64 0, .slice none ([] : List Int).length 0, .int .i32 0, .int .i32 0, .int .i32 0, .int .i32 0, .int .i64 0, .int .i64 0, .int .u32 0, .int .i64 0])] (by kernel_rfl) ?_
                            have hS : St B _ (Ass.box 90 g21764 [.slice A23016 t23012.length C23017, .int .i64 t23013, .int .i64 t23014] :: Ass.own 37 kS37 A23016 C23017 t23012 :: Ass.box 37 g22914 [.int .i32 t22909.f0, .int .i64 t22909.f1, .int .i64 t22909.f2, .slice A22911 t22909.f3.length C22912, .int .i32 t22909.f4.f0, .int .i32 t22909.f4.f1, .int .i32 t22909.f4.f2, .int .i32 t22909.f4.f3, .int .i64 t22909.f5, .int .i64 t22909.f6, .int .u32 t22909.f7, .int .i64 t22909.f8] :: Ass.box 47 g21753 [.int .i64 ((l11528.getD x15357.toNat zS47).f0), .int .i64 ((l11528.getD x15357.toNat zS47).f1)] :: Ass.own 47 kS47 (some ⟨g11527, 0, none⟩) 2 l11528 :: os) (Ro.sl (Kd.int .i32) none 0 ([] : List Int) :: Ro.sl (Kd.int .i32) none 0 ([] : List Int) :: Ro.sl (Kd.int .i32) none 0 ([] : List Int) :: Ro.sl (Kd.int .i32) A22911 C22912 t22909.f3 :: rs) := hS.re [1, 1] [] rfl (sub_cons 0 rfl sub_self)
                            obtain ⟨t23020, t23021, t23022, t23023, hc23026, H⟩ := b4_out H
                            refine EL.of (EO.callD 19 [.pointer (some ⟨g21764, 0, none⟩), .agg #[.int .i32 0, .int .i64 0, .int .i64 0, .slice none ([] : List Int).length 0, .int .i32 0, .int .i32 0, .int .i32 0, .int .i32 0, .int .i64 0, .int .i64 0, .int .u32 0, .int .i64 0]] _ 101 (by kernel_rfl) (by kernel_rfl) (by kernel_rfl) (ring_Ring_Push.calls hc23026 hS) ?_)
                            rintro v w ⟨A23024, C23025, rfl, hS⟩
                            refine EL.quick 1 [8, 9, 11, 30, 31, 32, 77, 78, 79, 80, 81, 87, 90, 91, 92, 93, 94, 95, 96, 99, 100, 101, 102] [(8, .pointer (some ⟨g21753, 0, none⟩)), (9, .pointer (some ⟨g21764, 0, none⟩)), (11, .int .i64 x22495), (30, .slice (some ⟨g11527, 0, none⟩) l11528.length 2), (31, .int .i64 (l11528.length : Int)), (32, .int .i64 x15357), (77, .int .i64 x22495), (78, .pointer (some ⟨g21753, 1, none⟩)), (79, .int .i64 ((l11528.getD x15357.toNat zS47).f1)), (80, .bool (false)), (81, .bool (false)), (87, .bool (false)), (90, .pointer (some ⟨g21764, 0, none⟩)), (91, .int .i64 x22495), (92, .int .i64 (IntKind.i64.wrap (1000 + x22495))), (93, .int .i32 (IntKind.i32.wrap (IntKind.i64.wrap (1000 + x22495)))), (94, .agg #[.int .i32 (IntKind.i32.wrap (IntKind.i64.wrap (1000 + x22495))), .int .i64 0, .int .i64 0, .slice none ([] : List Int).length 0, .int .i32 0, .int .i32 0, .int .i32 0, .int .i32 0, .int .i64 0, .int .i64 0, .int .u32 0, .int .i64 0]), (95, .bool (true)), (96, .bool (false)), (99, .pointer (some ⟨g21764, 0, none⟩)), (100, .agg #[.int .i32 0, .int .i64 0, .int .i64 0, .slice none ([] : List Int).length 0, .int .i32 0, .int .i32 0, .int .i32 0, .int .i32 0, .int .i64 0, .int .i64 0, .int .u32 0, .int .i64 0]), (101, .bool (t23023)), (102, .bool (t23023))] (by kernel_rfl) ?_
                            refine EL.done (by kernel_rfl) ?_
                            refine EQ.to ?_
                            refine EQ.keep [8, 9, 11, 30, 31, 32, 102] [(8, .pointer (some ⟨g21753, 0, none⟩)), (9, .pointer (some ⟨g21764, 0, none⟩)), (11, .int .i64 x22495), (30, .slice (some ⟨g11527, 0, none⟩) l11528.length 2), (31, .int .i64 (l11528.length : Int)), (32, .int .i64 x15357), (102, .bool (t23023))] (by kernel_rfl) ?_
                            exact fun a ha => ⟨t23020, t23021, t23022, t23023, A23024, C23025, ha, (hS.re [4, 4, 4, 4, 4] [] rfl (sub_cons 3 rfl (sub_tail (sub_tail (sub_tail (sub_tail (sub_self))))))), H⟩
                          · rw [if_neg h23019] at H
                            refine EL.keep [8, 9, 11, 30, 31, 32, 77, 78, 79, 80, 81, 87, 90, 91, 92, 93, 94, 95, 96, 98] [(8, .pointer (some ⟨g21753, 0, none⟩)), (9, .pointer (some ⟨g21764, 0, none⟩)), (11, .int .i64 x22495), (30, .slice (some ⟨g11527, 0, none⟩) l11528.length 2), (31, .int .i64 (l11528.length : Int)), (32, .int .i64 x15357), (77, .int .i64 x22495), (78, .pointer (some ⟨g21753, 1, none⟩)), (79, .int .i64 ((l11528.getD x15357.toNat zS47).f1)), (80, .bool (false)), (81, .bool (false)), (87, .bool (false)), (90, .pointer (some ⟨g21764, 0, none⟩)), (91, .int .i64 x22495), (92, .int .i64 (IntKind.i64.wrap (1000 + x22495))), (93, .int .i32 (IntKind.i32.wrap (IntKind.i64.wrap (1000 + x22495)))), (94, .agg #[.int .i32 (IntKind.i32.wrap (IntKind.i64.wrap (1000 + x22495))), .int .i64 0, .int .i64 0, .slice none ([] : List Int).length 0, .int .i32 0, .int .i32 0, .int .i32 0, .int .i32 0, .int .i64 0, .int .i64 0, .int .u32 0, .int .i64 0]), (95, .bool (t23015)), (96, .bool (!(t23015))), (98, .bool (!(t23015)))] (by kernel_rfl) ?_
                            refine EL.as' [(8, .pointer (some ⟨g21753, 0, none⟩)), (9, .pointer (some ⟨g21764, 0, none⟩)), (11, .int .i64 x22495), (30, .slice (some ⟨g11527, 0, none⟩) l11528.length 2), (31, .int .i64 (l11528.length : Int)), (32, .int .i64 x15357), (77, .int .i64 x22495), (78, .pointer (some ⟨g21753, 1, none⟩)), (79, .int .i64 ((l11528.getD x15357.toNat zS47).f1)), (80, .bool (false)), (81, .bool (false)), (87, .bool (false)), (90, .pointer (some ⟨g21764, 0, none⟩)), (91, .int .i64 x22495), (92, .int .i64 (IntKind.i64.wrap (1000 + x22495))), (93, .int .i32 (IntKind.i32.wrap (IntKind.i64.wrap (1000 + x22495)))), (94, .agg #[.int .i32 (IntKind.i32.wrap (IntKind.i64.wrap (1000 + x22495))), .int .i64 0, .int .i64 0, .slice none ([] : List Int).length 0, .int .i32 0, .int .i32 0, .int .i32 0, .int .i32 0, .int .i64 0, .int .i64 0, .int .u32 0, .int .i64 0]), (95, .bool (false)), (96, .bool (true)), (98, .bool (true))] (by simp only [(Bool.eq_false_iff.2 h23019), Bool.not_true, Bool.not_false]) ?_
                            refine EL.quick 4 [8, 9, 11, 30, 31, 32, 77, 78, 79, 80, 81, 87, 90, 91, 92, 93, 94, 95, 96, 102] [(8, .pointer (some ⟨g21753, 0, none⟩)), (9, .pointer (some ⟨g21764, 0, none⟩)), (11, .int .i64 x22495), (30, .slice (some ⟨g11527, 0, none⟩) l11528.length 2), (31, .int .i64 (l11528.length : Int)), (32, .int .i64 x15357), (77, .int .i64 x22495), (78, .pointer (some ⟨g21753, 1, none⟩)), (79, .int .i64 ((l11528.getD x15357.toNat zS47).f1)), (80, .bool (false)), (81, .bool (false)), (87, .bool (false)), (90, .pointer (some ⟨g21764, 0, none⟩)), (91, .int .i64 x22495), (92, .int .i64 (IntKind.i64.wrap (1000 + x22495))), (93, .int .i32 (IntKind.i32.wrap (IntKind.i64.wrap (1000 + x22495)))), (94, .agg #[.int .i32 (IntKind.i32.wrap (IntKind.i64.wrap (1000 + x22495))), .int .i64 0, .int .i64 0, .slice none ([] : List Int).length 0, .int .i32 0, .int .i32 0, .int .i32 0, .int .i32 0, .int .i64 0, .int .i64 0, .int .u32 0, .int .i64 0]), (95, .bool (false)), (96, .bool (true)), (102, .bool (true))] (by kernel_rfl) ?_
                            refine EL.done (by kernel_rfl) ?_
                            refine EQ.to ?_
                            refine EQ.keep [8, 9, 11, 30, 31, 32, 102] [(8, .pointer (some ⟨g21753, 0, none⟩)), (9, .pointer (some ⟨g21764, 0, none⟩)), (11, .int .i64 x22495), (30, .slice (some ⟨g11527, 0, none⟩) l11528.length 2), (31, .int .i64 (l11528.length : Int)), (32, .int .i64 x15357), (102, .bool (true))] (by kernel_rfl) ?_
                            exact fun a ha => ⟨t23012, t23013, t23014, true, A23016, C23017, ha, (hS.re [4, 4, 4, 4, 4] [] rfl (sub_cons 2 rfl (sub_tail (sub_tail (sub_tail (sub_self)))))), H⟩
                      · rw [if_neg h22994] at H
                        refine EL.keep [8, 9, 11, 12, 30, 31, 32, 76] [(8, .pointer (some ⟨g21753, 0, none⟩)), (9, .pointer (some ⟨g21764, 0, none⟩)), (11, .int .i64 x22495), (12, .pointer (some ⟨g22914, 0, none⟩)), (30, .slice (some ⟨g11527, 0, none⟩) l11528.length 2), (31, .int .i64 (l11528.length : Int)), (32, .int .i64 x15357), (76, .bool (!(t22910)))] (by kernel_rfl) ?_
                        refine EL.as' [(8, .pointer (some ⟨g21753, 0, none⟩)), (9, .pointer (some ⟨g21764, 0, none⟩)), (11, .int .i64 x22495), (12, .pointer (some ⟨g22914, 0, none⟩)), (30, .slice (some ⟨g11527, 0, none⟩) l11528.length 2), (31, .int .i64 (l11528.length : Int)), (32, .int .i64 x15357), (76, .bool (true))] (by simp only [(Bool.eq_false_iff.2 h22994), Bool.not_true, Bool.not_false]) ?_
                        refine EL.quick 26 [8, 9, 11, 30, 31, 32, 102] [(8, .pointer (some ⟨g21753, 0, none⟩)), (9, .pointer (some ⟨g21764, 0, none⟩)), (11, .int .i64 x22495), (30, .slice (some ⟨g11527, 0, none⟩) l11528.length 2), (31, .int .i64 (l11528.length : Int)), (32, .int .i64 x15357), (102, .bool (true))] (by kernel_rfl) ?_
                        refine EL.done (by kernel_rfl) ?_
                        refine EQ.to ?_
                        refine EQ.keep [8, 9, 11, 30, 31, 32, 102] [(8, .pointer (some ⟨g21753, 0, none⟩)), (9, .pointer (some ⟨g21764, 0, none⟩)), (11, .int .i64 x22495), (30, .slice (some ⟨g11527, 0, none⟩) l11528.length 2), (31, .int .i64 (l11528.length : Int)), (32, .int .i64 x15357), (102, .bool (true))] (by kernel_rfl) ?_
                        exact fun a ha => ⟨x22490, t22907, t22908, true, A22491, C22492, ha, (hS.re [4, 4, 2, 4, 4] [] rfl (sub_cons 0 rfl (sub_tail (sub_self)))), H⟩
                    · obtain ⟨x22987, x22990, x22991, x22992, A22988, C22989, ha, hS, H⟩ := hI
                      rw [hj22993] at H
                      (try dsimp only at H)
                      refine EW.at ?_ a ha
                      clear ha a
                      refine EW.condP' (o := (.tmp 102)) (x := Cd5.r.r.r.r.l.r.l.l.r.r.l.l.r.r.r.r.r.l.l.r.l.l.r.r.l) (y := Cd5.r.r.r.r.l.r.l.l.r.r.l.l.r.r.r.r.r.l.l.r.l.l.r.r.r) (x22992) (by kernel_rfl) (by kernel_rfl) (fun h23027 => ?_) (fun h23027 => ?_)
                      · rw [if_pos h23027] at H
                        refine EW.seq (x := Cd5.r.r.r.r.l.r.l.l.r.r.l.l.r.r.r.r.r.l.l.r.l.l.r.r.l.l) (y := Cd5.r.r.r.r.l.r.l.l.r.r.l.l.r.r.r.r.r.l.l.r.l.l.r.r.l.r) (by kernel_rfl) ?_
                        refine EW.region (id := 21) (ops := Cd5.r.r.r.r.l.r.l.l.r.r.l.l.r.r.r.r.r.l.l.r.l.l.r.r.l.l.ops) (by kernel_rfl) ?_
                        refine EL.quick 1 [4] [(4, .bool (false))] (by kernel_rfl) ?_
                        refine EL.done (by kernel_rfl) ?_
                        refine EQ.code ?_
                        refine EW.ret (by kernel_rfl) ?_
                        refine EQ.ret ?_
                        refine EQ.ret ?_
                        refine EQ.ret ?_
                        refine EQ.ret ?_
                        refine EQ.ret ?_
                        refine EQ.ret ?_
                        refine EQ.ret ?_
                        refine EQ.ret ?_
                        refine EQ.ret ?_
                        obtain rfl := Option.some.inj H
                        exact EQ.leave (.bool (false)) (by kernel_rfl) ⟨_, rfl, rfl, (hS.re [] [0, 0, 0, 0, 0] rfl (sub_tail (sub_self)))⟩
                      · rw [if_neg h23027] at H
                        refine EW.skip (by kernel_rfl) ?_
                        refine EQ.pop ?_
                        refine EQ.code ?_
                        refine EW.region (id := 18) (ops := Cd5.r.r.r.r.l.r.l.l.r.r.l.l.r.r.r.r.r.l.l.r.r.ops) (by kernel_rfl) ?_
                        refine EL.quick 3 [8, 9, 11, 30, 31, 32] [(8, .pointer (some ⟨g21753, 0, none⟩)), (9, .pointer (some ⟨g21764, 0, none⟩)), (11, .int .i64 (IntKind.i64.wrap (x22495 + 1))), (30, .slice (some ⟨g11527, 0, none⟩) l11528.length 2), (31, .int .i64 (l11528.length : Int)), (32, .int .i64 x15357)] (by kernel_rfl) ?_
                        refine EL.done (by kernel_rfl) ?_
                        refine EQ.to ?_
                        refine EQ.keep [8, 9, 11, 30, 31, 32] [(8, .pointer (some ⟨g21753, 0, none⟩)), (9, .pointer (some ⟨g21764, 0, none⟩)), (11, .int .i64 (IntKind.i64.wrap (x22495 + 1))), (30, .slice (some ⟨g11527, 0, none⟩) l11528.length 2), (31, .int .i64 (l11528.length : Int)), (32, .int .i64 x15357)] (by kernel_rfl) ?_
                        exact fun a ha => ⟨n, Nat.lt_succ_self n, x22987, x22990, x22991, IntKind.i64.wrap (x22495 + 1), A22988, C22989, ha, (hS.re [4, 4, 3, 3] [4] rfl (sub_tail (sub_self))), H⟩
                  · rw [if_neg h22769] at H
                    refine EW.exit (id := 4) (by kernel_rfl) ?_
                    refine EQ.exitCode ?_
                    refine EQ.exitTo ?_
                    refine EQ.exitHere ?_
                    refine EQ.pop ?_
                    refine EQ.to ?_
                    refine EQ.keep [30, 31, 32] [(30, .slice (some ⟨g11527, 0, none⟩) l11528.length 2), (31, .int .i64 (l11528.length : Int)), (32, .int .i64 x15357)] (by kernel_rfl) ?_
                    exact fun a ha => ⟨x22490, x22493, x22494, g21764, g21753, A22491, C22492, ha, (hS.re [3, 3, 3, 3] [] rfl (sub_self)), H⟩
        · obtain ⟨x21744, x21747, x21748, g21742, g21743, A21745, C21746, ha, hS, H⟩ := hI
          rw [hj21749] at H
          (try dsimp only at H)
          refine EW.at ?_ a ha
          clear ha a
          refine EW.region (id := 22) (ops := Cd5.r.r.r.r.l.r.l.l.r.r.r.ops) (by kernel_rfl) ?_
          refine EL.quick 2 [30, 31, 32] [(30, .slice (some ⟨g11527, 0, none⟩) l11528.length 2), (31, .int .i64 (l11528.length : Int)), (32, .int .i64 (IntKind.i64.wrap (x15357 + 1)))] (by kernel_rfl) ?_
          refine EL.done (by kernel_rfl) ?_
          refine EQ.to ?_
          refine EQ.keep [30, 31, 32] [(30, .slice (some ⟨g11527, 0, none⟩) l11528.length 2), (31, .int .i64 (l11528.length : Int)), (32, .int .i64 (IntKind.i64.wrap (x15357 + 1)))] (by kernel_rfl) ?_
          exact fun a ha => ⟨n, Nat.lt_succ_self n, IntKind.i64.wrap (x15357 + 1), ha, (hS.re [3] [1, 1, 1] rfl (sub_self)), H⟩
      · rw [if_neg h19193] at H
        refine EW.exit (id := 0) (by kernel_rfl) ?_
        refine EQ.exitCode ?_
        refine EQ.exitTo ?_
        refine EQ.exitHere ?_
        refine EQ.code ?_
        refine EW.seq (x := Cd5.r.r.r.r.r.l) (y := Cd5.r.r.r.r.r.r) (by kernel_rfl) ?_
        refine EW.region (id := 23) (ops := Cd5.r.r.r.r.r.l.ops) (by kernel_rfl) ?_
        refine EL.quick 1 [4] [(4, .bool (true))] (by kernel_rfl) ?_
        refine EL.done (by kernel_rfl) ?_
        refine EQ.code ?_
        refine EW.ret (by kernel_rfl) ?_
        obtain rfl := Option.some.inj H
        exact EQ.leave (.bool (true)) (by kernel_rfl) ⟨_, rfl, rfl, (hS.re [] [0] rfl (sub_self))⟩
  · rw [if_neg h11524] at H
    refine EW.seq (x := Cd5.r.l.r.l.l) (y := Cd5.r.l.r.l.r) (by kernel_rfl) ?_
    refine EW.region (id := 2) (ops := Cd5.r.l.r.l.l.ops) (by kernel_rfl) ?_
    refine EL.quick 1 [4] [(4, .bool (false))] (by kernel_rfl) ?_
    refine EL.done (by kernel_rfl) ?_
    refine EQ.code ?_
    refine EW.ret (by kernel_rfl) ?_
    refine EQ.ret ?_
    obtain rfl := Option.some.inj H
    exact EQ.leave (.bool (false)) (by kernel_rfl) ⟨_, rfl, rfl, (hS.re [] [] rfl (sub_self))⟩

def confidantlaw15_RingRooms.Pure : Prop := ∀ (a3 : Int) (a4 : Int), (Lit.int .i64 a3).wf = true → (Lit.int .u8 a4).wf = true → ∃ K, confidantlaw15_RingRooms.f K a3 a4 = some true

noncomputable def Cd6 : Code := bodyOf Try.f6

/-! ### confidant/confidantlaw15.RingHalves: function 6 -/
def confidantlaw15_RingHalves.l2 (K : Nat) (t6469 : List S37) (j6460 : Int → Int → (List S37) → Int → Option Bool) (t6467 : Int) (t6468 : Int) : Nat → Int → Int → Option Bool
  | 0, _, _ => none
  | n + 1, x6501, x6502 => if x6502 < (t6469.length : Int) then (if 0 ≤ x6502 then (if (IntKind.i64.wrap ((t6469.getD x6502.toNat zS37).f0)) = x6501 then (confidantlaw15_RingHalves.l2 K t6469 j6460 t6467 t6468 n (IntKind.i64.wrap (x6501 + 1)) (IntKind.i64.wrap (x6502 + 1))) else (some false)) else none) else (j6460 t6467 t6468 t6469 x6501)
def confidantlaw15_RingHalves.l1 (K : Nat) (x3473 : List S37) (a2 : Int) (j5564 : Int → Int → Int → Option Bool) : Nat → Int → Int → Int → Int → Option Bool
  | 0, _, _, _, _ => none
  | n + 1, x5899, x5900, x5901, x5902 => if x5902 < 10 then (lt (fun (x6454 : Int) (x6455 : Int) (x6456 : List S37) (x6459 : Int) => (confidantlaw15_RingHalves.l1 K x3473 a2 j5564 n x6454 x6455 x6459 (IntKind.i64.wrap (x5902 + 1)))) fun j6460 => (b3 (ring_Ring_Half.f K x3473 x5899 x5900) fun (t6467 : Int) (t6468 : Int) (t6469 : List S37) => (if (t6469.length : Int) = (IntKind.i64.wrap (Int.tdiv (IntKind.i64.wrap ((IntKind.i64.wrap ((IntKind.i64.wrap (Int.tmod a2 64)) - x5901)) + 1)) 2)) then (confidantlaw15_RingHalves.l2 K t6469 j6460 t6467 t6468 K x5901 0) else (some false)))) else (j5564 x5899 x5900 x5901)
def confidantlaw15_RingHalves.l0 (K : Nat) (a2 : Int) (j3478 : (List S37) → Int → Int → Option Bool) : Nat → (List S37) → Int → Int → Int → Option Bool
  | 0, _, _, _, _ => none
  | n + 1, x3507, x3510, x3511, x3512 => if x3512 < (IntKind.i64.wrap (Int.tmod a2 64)) then (b4 (ring_Ring_Push.f K x3507 x3510 x3511 (IntKind.i32.wrap x3512) 0 0 ([] : List Int) 0 0 0 0 0 0 0 0) fun (t3550 : List S37) (t3551 : Int) (t3552 : Int) (t3553 : Bool) => (confidantlaw15_RingHalves.l0 K a2 j3478 n t3550 t3551 t3552 (IntKind.i64.wrap (x3512 + 1)))) else (j3478 x3507 x3510 x3511)
def confidantlaw15_RingHalves.f (K : Nat) (a2 : Int) : Option Bool := b1 (confidantlaw15_known.f K) fun (t3295 : Bool) => (if t3295 = true then (b3 (ring_New.f K 64) fun (t3305 : List S37) (t3306 : Int) (t3307 : Int) => (lt (fun (x3473 : List S37) (x3476 : Int) (x3477 : Int) => (lt (fun (x5561 : Int) (x5562 : Int) (x5563 : Int) => (if x5563 = (IntKind.i64.wrap (Int.tmod a2 64)) then (b3 (ring_Ring_Len.f K x3473 x5561 x5562) fun (t6568 : Int) (t6569 : Int) (t6570 : Int) => (some (decide (t6570 = 0)))) else (some false))) fun j5564 => (confidantlaw15_RingHalves.l1 K x3473 a2 j5564 K x3476 x3477 0 0))) fun j3478 => (confidantlaw15_RingHalves.l0 K a2 j3478 K t3305 t3306 t3307 0))) else (some false))
set_option maxRecDepth 100000 in
theorem confidantlaw15_RingHalves.calls {K : Nat} {a2 : Int} {x3287 : Bool} {B w : World} {os : List Ass} {rs : List Ro} (H : confidantlaw15_RingHalves.f K a2 = some x3287) (hS : St B w (os) (rs)) :
    Calls Try.prog 6 [.int .u8 a2].toArray w (fun en w' => ∃ v, en = .returned v ∧ v = .bool (x3287) ∧ St B w' (os) (rs)) := by
  unfold confidantlaw15_RingHalves.f at H
  refine calls_of_EW (args := [.int .u8 a2]) (c := Cd6) 64 Try.func6 (by kernel_rfl) (by kernel_rfl) (by kernel_rfl) ?_
  refine EW.seq (x := Cd6.l) (y := Cd6.r) (by kernel_rfl) ?_
  refine EW.region (id := 0) (ops := Cd6.l.ops) (by kernel_rfl) ?_
  refine EL.quick 1 [0] [(0, .int .u8 a2)] (by kernel_rfl) ?_
  refine EL.done (by kernel_rfl) ?_
  refine EQ.code ?_
  refine EW.seq (x := Cd6.r.l) (y := Cd6.r.r) (by kernel_rfl) ?_
  refine EW.seq (x := Cd6.r.l.l) (y := Cd6.r.l.r) (by kernel_rfl) ?_
  refine EW.region (id := 1) (ops := Cd6.r.l.l.ops) (by kernel_rfl) ?_
  obtain ⟨t3295, hc3296, H⟩ := b1_out H
  refine EL.of (EO.callD 15 [] _ 10 (by kernel_rfl) (by kernel_rfl) (by kernel_rfl) (confidantlaw15_known.calls hc3296 hS) ?_)
  rintro v w ⟨rfl, hS⟩
  refine EL.quick 1 [0, 11] [(0, .int .u8 a2), (11, .bool (!(t3295)))] (by kernel_rfl) ?_
  refine EL.done (by kernel_rfl) ?_
  refine EQ.code ?_
  refine EW.condQ (b := !(t3295)) (o := (.tmp 11)) (x := Cd6.r.l.r.l) (y := Cd6.r.l.r.r) (t3295 = true) (false) (by kernel_rfl) (by kernel_rfl) ⟨fun h => (by rw [h] <;> rfl), fun h => (by rw [Bool.eq_false_iff.2 h] <;> rfl)⟩ (fun h3297 => ?_) (fun h3297 => ?_)
  · rw [if_pos h3297] at H
    refine EW.skip (by kernel_rfl) ?_
    refine EQ.code ?_
    refine EW.seq (x := Cd6.r.r.l) (y := Cd6.r.r.r) (by kernel_rfl) ?_
    refine EW.region (id := 3) (ops := Cd6.r.r.l.ops) (by kernel_rfl) ?_
    refine EL.quick 4 [3] [(3, .int .i64 (IntKind.i64.wrap (Int.tmod a2 64)))] (by kernel_rfl) ?_
    refine EL.done (by kernel_rfl) ?_
    refine EQ.code ?_
    refine EW.seq (x := Cd6.r.r.r.l) (y := Cd6.r.r.r.r) (by kernel_rfl) ?_
    refine EW.region (id := 4) (ops := Cd6.r.r.r.l.ops) (by kernel_rfl) ?_
    obtain ⟨t3305, t3306, t3307, hc3311, H⟩ := b3_out H
    refine EL.of (EO.callD 16 [.int .i64 64] _ 15 (by kernel_rfl) (by kernel_rfl) (by kernel_rfl) (ring_New.calls hc3311 hS) ?_)
    rintro v w ⟨g3308, A3309, C3310, rfl, hS⟩
    refine EL.quick 1 [3, 4] [(3, .int .i64 (IntKind.i64.wrap (Int.tmod a2 64))), (4, .pointer (some ⟨g3308, 0, none⟩))] (by kernel_rfl) ?_
    refine EL.done (by kernel_rfl) ?_
    refine EQ.code ?_
    obtain ⟨j3478, hj3478, H⟩ := lt_out H
    refine EW.cut (x := Cd6.r.r.r.r.l) (y := Cd6.r.r.r.r.r) (fun a w => ∃ x3473 : List S37, ∃ x3476 : Int, ∃ x3477 : Int, ∃ A3474 : Option Addr, ∃ C3475 : Nat, Sat 64 [(3, .int .i64 (IntKind.i64.wrap (Int.tmod a2 64))), (4, .pointer (some ⟨g3308, 0, none⟩))] a ∧ St B w (Ass.box 90 g3308 [.slice A3474 x3473.length C3475, .int .i64 x3476, .int .i64 x3477] :: Ass.own 37 kS37 A3474 C3475 x3473 :: os) (rs) ∧ j3478 x3473 x3476 x3477 = some x3287) (by kernel_rfl) ?_ (fun a w hI => ?_)
    · refine EW.seq (x := Cd6.r.r.r.r.l.l) (y := Cd6.r.r.r.r.l.r) (by kernel_rfl) ?_
      refine EW.region (id := 5) (ops := Cd6.r.r.r.r.l.l.ops) (by kernel_rfl) ?_
      refine EL.quick 1 [3, 4, 5] [(3, .int .i64 (IntKind.i64.wrap (Int.tmod a2 64))), (4, .pointer (some ⟨g3308, 0, none⟩)), (5, .int .i64 0)] (by kernel_rfl) ?_
      refine EL.done (by kernel_rfl) ?_
      refine EQ.code ?_
      refine EW.block (x := Cd6.r.r.r.r.l.r.l) (id := 0) (by kernel_rfl) ?_
      refine EW.loop (x := Cd6.r.r.r.r.l.r.l.l) (fun n a w => ∃ x3507 : List S37, ∃ x3510 : Int, ∃ x3511 : Int, ∃ x3512 : Int, ∃ A3508 : Option Addr, ∃ C3509 : Nat, Sat 64 [(3, .int .i64 (IntKind.i64.wrap (Int.tmod a2 64))), (4, .pointer (some ⟨g3308, 0, none⟩)), (5, .int .i64 x3512)] a ∧ St B w (Ass.box 90 g3308 [.slice A3508 x3507.length C3509, .int .i64 x3510, .int .i64 x3511] :: Ass.own 37 kS37 A3508 C3509 x3507 :: os) (rs) ∧ confidantlaw15_RingHalves.l0 K a2 j3478 n x3507 x3510 x3511 x3512 = some x3287) K (by kernel_rfl) ?_ (fun n a w hI => ?_)
      · refine EQ.keep [3, 4, 5] [(3, .int .i64 (IntKind.i64.wrap (Int.tmod a2 64))), (4, .pointer (some ⟨g3308, 0, none⟩)), (5, .int .i64 0)] (by kernel_rfl) ?_
        exact fun a ha => ⟨t3305, t3306, t3307, 0, A3309, C3310, ha, (hS.re [1, 1] [] rfl (sub_self)), H⟩
      · obtain ⟨x3507, x3510, x3511, x3512, A3508, C3509, ha, hS, H⟩ := hI
        obtain _ | n := n
        · simp [confidantlaw15_RingHalves.l0] at H
        rw [confidantlaw15_RingHalves.l0.eq_2] at H
        refine EW.at ?_ a ha
        clear ha a
        refine EW.seq (x := Cd6.r.r.r.r.l.r.l.l.l) (y := Cd6.r.r.r.r.l.r.l.l.r) (by kernel_rfl) ?_
        refine EW.seq (x := Cd6.r.r.r.r.l.r.l.l.l.l) (y := Cd6.r.r.r.r.l.r.l.l.l.r) (by kernel_rfl) ?_
        refine EW.region (id := 6) (ops := Cd6.r.r.r.r.l.r.l.l.l.l.ops) (by kernel_rfl) ?_
        refine EL.quick 3 [3, 4, 5, 18] [(3, .int .i64 (IntKind.i64.wrap (Int.tmod a2 64))), (4, .pointer (some ⟨g3308, 0, none⟩)), (5, .int .i64 x3512), (18, .bool (decide (x3512 < (IntKind.i64.wrap (Int.tmod a2 64)))))] (by kernel_rfl) ?_
        refine EL.done (by kernel_rfl) ?_
        refine EQ.code ?_
        refine EW.condP (o := (.tmp 18)) (x := Cd6.r.r.r.r.l.r.l.l.l.r.l) (y := Cd6.r.r.r.r.l.r.l.l.l.r.r) (x3512 < (IntKind.i64.wrap (Int.tmod a2 64))) (by kernel_rfl) (by kernel_rfl) (fun h3542 => ?_) (fun h3542 => ?_)
        · rw [if_pos h3542] at H
          refine EW.skip (by kernel_rfl) ?_
          refine EQ.code ?_
          refine EW.seq (x := Cd6.r.r.r.r.l.r.l.l.r.l) (y := Cd6.r.r.r.r.l.r.l.l.r.r) (by kernel_rfl) ?_
          refine EW.block (x := Cd6.r.r.r.r.l.r.l.l.r.l.l) (id := 1) (by kernel_rfl) ?_
          refine EW.region (id := 8) (ops := Cd6.r.r.r.r.l.r.l.l.r.l.l.ops) (by kernel_rfl) ?_
          refine EL.quick 4 [3, 4, 5, 21, 24] [(3, .int .i64 (IntKind.i64.wrap (Int.tmod a2 64))), (4, .pointer (some ⟨g3308, 0, none⟩)), (5, .int .i64 x3512), (21, .pointer (some ⟨g3308, 0, none⟩)), (24, .agg #[.int .i32 (IntKind.i32.wrap x3512), .int .i64 0, .int .i64 0, .slice none ([] : List Int).length 0, .int .i32 0, .int .i32 0, .int .i32 0, .int .i32 0, .int .i64 0, .int .i64 0, .int .u32 0, .int .i64 0])] (by kernel_rfl) ?_
          have hS := St.nilR hS (Kd.int .i32)
          have hS : St B _ (Ass.box 90 g3308 [.slice A3508 x3507.length C3509, .int .i64 x3510, .int .i64 x3511] :: Ass.own 37 kS37 A3508 C3509 x3507 :: os) (Ro.sl (Kd.int .i32) none 0 ([] : List Int) :: Ro.sl (Kd.int .i32) none 0 ([] : List Int) :: rs) := hS.re [1, 1] [] rfl (sub_cons 0 rfl sub_self)
          obtain ⟨t3550, t3551, t3552, t3553, hc3556, H⟩ := b4_out H
          refine EL.of (EO.callD 19 [.pointer (some ⟨g3308, 0, none⟩), .agg #[.int .i32 (IntKind.i32.wrap x3512), .int .i64 0, .int .i64 0, .slice none ([] : List Int).length 0, .int .i32 0, .int .i32 0, .int .i32 0, .int .i32 0, .int .i64 0, .int .i64 0, .int .u32 0, .int .i64 0]] _ 25 (by kernel_rfl) (by kernel_rfl) (by kernel_rfl) (ring_Ring_Push.calls hc3556 hS) ?_)
          rintro v w ⟨A3554, C3555, rfl, hS⟩
          refine EL.done (by kernel_rfl) ?_
          refine EQ.pop ?_
          refine EQ.code ?_
          refine EW.region (id := 7) (ops := Cd6.r.r.r.r.l.r.l.l.r.r.ops) (by kernel_rfl) ?_
          refine EL.quick 3 [3, 4, 5] [(3, .int .i64 (IntKind.i64.wrap (Int.tmod a2 64))), (4, .pointer (some ⟨g3308, 0, none⟩)), (5, .int .i64 (IntKind.i64.wrap (x3512 + 1)))] (by kernel_rfl) ?_
          refine EL.done (by kernel_rfl) ?_
          refine EQ.to ?_
          refine EQ.keep [3, 4, 5] [(3, .int .i64 (IntKind.i64.wrap (Int.tmod a2 64))), (4, .pointer (some ⟨g3308, 0, none⟩)), (5, .int .i64 (IntKind.i64.wrap (x3512 + 1)))] (by kernel_rfl) ?_
          exact fun a ha => ⟨n, Nat.lt_succ_self n, t3550, t3551, t3552, IntKind.i64.wrap (x3512 + 1), A3554, C3555, ha, (hS.re [1, 1] [] rfl (sub_tail (sub_tail (sub_self)))), H⟩
        · rw [if_neg h3542] at H
          refine EW.exit (id := 0) (by kernel_rfl) ?_
          refine EQ.exitCode ?_
          refine EQ.exitTo ?_
          refine EQ.exitHere ?_
          refine EQ.to ?_
          refine EQ.keep [3, 4] [(3, .int .i64 (IntKind.i64.wrap (Int.tmod a2 64))), (4, .pointer (some ⟨g3308, 0, none⟩))] (by kernel_rfl) ?_
          exact fun a ha => ⟨x3507, x3510, x3511, A3508, C3509, ha, (hS.re [1, 1] [] rfl (sub_self)), H⟩
    · obtain ⟨x3473, x3476, x3477, A3474, C3475, ha, hS, H⟩ := hI
      rw [hj3478] at H
      (try dsimp only at H)
      refine EW.at ?_ a ha
      clear ha a
      refine EW.seq (x := Cd6.r.r.r.r.r.l) (y := Cd6.r.r.r.r.r.r) (by kernel_rfl) ?_
      refine EW.region (id := 9) (ops := Cd6.r.r.r.r.r.l.ops) (by kernel_rfl) ?_
      refine EL.quick 1 [3, 4, 6] [(3, .int .i64 (IntKind.i64.wrap (Int.tmod a2 64))), (4, .pointer (some ⟨g3308, 0, none⟩)), (6, .int .i64 0)] (by kernel_rfl) ?_
      refine EL.done (by kernel_rfl) ?_
      refine EQ.code ?_
      obtain ⟨j5564, hj5564, H⟩ := lt_out H
      refine EW.cut (x := Cd6.r.r.r.r.r.r.l) (y := Cd6.r.r.r.r.r.r.r) (fun a w => ∃ x5561 : Int, ∃ x5562 : Int, ∃ x5563 : Int, Sat 64 [(3, .int .i64 (IntKind.i64.wrap (Int.tmod a2 64))), (4, .pointer (some ⟨g3308, 0, none⟩)), (6, .int .i64 x5563)] a ∧ St B w (Ass.box 90 g3308 [.slice A3474 x3473.length C3475, .int .i64 x5561, .int .i64 x5562] :: Ass.own 37 kS37 A3474 C3475 x3473 :: os) (rs) ∧ j5564 x5561 x5562 x5563 = some x3287) (by kernel_rfl) ?_ (fun a w hI => ?_)
      · refine EW.seq (x := Cd6.r.r.r.r.r.r.l.l) (y := Cd6.r.r.r.r.r.r.l.r) (by kernel_rfl) ?_
        refine EW.region (id := 10) (ops := Cd6.r.r.r.r.r.r.l.l.ops) (by kernel_rfl) ?_
        refine EL.quick 1 [3, 4, 6, 7] [(3, .int .i64 (IntKind.i64.wrap (Int.tmod a2 64))), (4, .pointer (some ⟨g3308, 0, none⟩)), (6, .int .i64 0), (7, .int .i64 0)] (by kernel_rfl) ?_
        refine EL.done (by kernel_rfl) ?_
        refine EQ.code ?_
        refine EW.block (x := Cd6.r.r.r.r.r.r.l.r.l) (id := 2) (by kernel_rfl) ?_
        refine EW.loop (x := Cd6.r.r.r.r.r.r.l.r.l.l) (fun n a w => ∃ x5899 : Int, ∃ x5900 : Int, ∃ x5901 : Int, ∃ x5902 : Int, Sat 64 [(3, .int .i64 (IntKind.i64.wrap (Int.tmod a2 64))), (4, .pointer (some ⟨g3308, 0, none⟩)), (6, .int .i64 x5901), (7, .int .i64 x5902)] a ∧ St B w (Ass.box 90 g3308 [.slice A3474 x3473.length C3475, .int .i64 x5899, .int .i64 x5900] :: Ass.own 37 kS37 A3474 C3475 x3473 :: os) (rs) ∧ confidantlaw15_RingHalves.l1 K x3473 a2 j5564 n x5899 x5900 x5901 x5902 = some x3287) K (by kernel_rfl) ?_ (fun n a w hI => ?_)
        · refine EQ.keep [3, 4, 6, 7] [(3, .int .i64 (IntKind.i64.wrap (Int.tmod a2 64))), (4, .pointer (some ⟨g3308, 0, none⟩)), (6, .int .i64 0), (7, .int .i64 0)] (by kernel_rfl) ?_
          exact fun a ha => ⟨x3476, x3477, 0, 0, ha, (hS.re [1, 1] [] rfl (sub_self)), H⟩
        · obtain ⟨x5899, x5900, x5901, x5902, ha, hS, H⟩ := hI
          obtain _ | n := n
          · simp [confidantlaw15_RingHalves.l1] at H
          rw [confidantlaw15_RingHalves.l1.eq_2] at H
          refine EW.at ?_ a ha
          clear ha a
          refine EW.seq (x := Cd6.r.r.r.r.r.r.l.r.l.l.l) (y := Cd6.r.r.r.r.r.r.l.r.l.l.r) (by kernel_rfl) ?_
          refine EW.seq (x := Cd6.r.r.r.r.r.r.l.r.l.l.l.l) (y := Cd6.r.r.r.r.r.r.l.r.l.l.l.r) (by kernel_rfl) ?_
          refine EW.region (id := 11) (ops := Cd6.r.r.r.r.r.r.l.r.l.l.l.l.ops) (by kernel_rfl) ?_
          refine EL.quick 2 [3, 4, 6, 7, 27] [(3, .int .i64 (IntKind.i64.wrap (Int.tmod a2 64))), (4, .pointer (some ⟨g3308, 0, none⟩)), (6, .int .i64 x5901), (7, .int .i64 x5902), (27, .bool (decide (x5902 < 10)))] (by kernel_rfl) ?_
          refine EL.done (by kernel_rfl) ?_
          refine EQ.code ?_
          refine EW.condP (o := (.tmp 27)) (x := Cd6.r.r.r.r.r.r.l.r.l.l.l.r.l) (y := Cd6.r.r.r.r.r.r.l.r.l.l.l.r.r) (x5902 < 10) (by kernel_rfl) (by kernel_rfl) (fun h6240 => ?_) (fun h6240 => ?_)
          · rw [if_pos h6240] at H
            refine EW.skip (by kernel_rfl) ?_
            refine EQ.code ?_
            obtain ⟨j6460, hj6460, H⟩ := lt_out H
            refine EW.cut (x := Cd6.r.r.r.r.r.r.l.r.l.l.r.l) (y := Cd6.r.r.r.r.r.r.l.r.l.l.r.r) (fun a w => ∃ x6454 : Int, ∃ x6455 : Int, ∃ x6456 : List S37, ∃ x6459 : Int, ∃ A6457 : Option Addr, ∃ C6458 : Nat, Sat 64 [(3, .int .i64 (IntKind.i64.wrap (Int.tmod a2 64))), (4, .pointer (some ⟨g3308, 0, none⟩)), (6, .int .i64 x6459), (7, .int .i64 x5902)] a ∧ St B w (Ass.box 90 g3308 [.slice A3474 x3473.length C3475, .int .i64 x6454, .int .i64 x6455] :: Ass.own 37 kS37 A3474 C3475 x3473 :: Ass.own 37 kS37 A6457 C6458 x6456 :: os) (rs) ∧ j6460 x6454 x6455 x6456 x6459 = some x3287) (by kernel_rfl) ?_ (fun a w hI => ?_)
            · refine EW.block (x := Cd6.r.r.r.r.r.r.l.r.l.l.r.l.l) (id := 3) (by kernel_rfl) ?_
              refine EW.seq (x := Cd6.r.r.r.r.r.r.l.r.l.l.r.l.l.l) (y := Cd6.r.r.r.r.r.r.l.r.l.l.r.l.l.r) (by kernel_rfl) ?_
              refine EW.region (id := 13) (ops := Cd6.r.r.r.r.r.r.l.r.l.l.r.l.l.l.ops) (by kernel_rfl) ?_
              refine EL.quick 1 [3, 4, 6, 7, 30] [(3, .int .i64 (IntKind.i64.wrap (Int.tmod a2 64))), (4, .pointer (some ⟨g3308, 0, none⟩)), (6, .int .i64 x5901), (7, .int .i64 x5902), (30, .pointer (some ⟨g3308, 0, none⟩))] (by kernel_rfl) ?_
              obtain ⟨t6467, t6468, t6469, hc6472, H⟩ := b3_out H
              refine EL.of (EO.callD 27 [.pointer (some ⟨g3308, 0, none⟩)] _ 31 (by kernel_rfl) (by kernel_rfl) (by kernel_rfl) (ring_Ring_Half.calls hc6472 hS) ?_)
              rintro v w ⟨A6470, C6471, rfl, hS⟩
              refine EL.quick 1 [3, 4, 6, 7, 8] [(3, .int .i64 (IntKind.i64.wrap (Int.tmod a2 64))), (4, .pointer (some ⟨g3308, 0, none⟩)), (6, .int .i64 x5901), (7, .int .i64 x5902), (8, .slice A6470 t6469.length C6471)] (by kernel_rfl) ?_
              refine EL.done (by kernel_rfl) ?_
              refine EQ.code ?_
              refine EW.seq (x := Cd6.r.r.r.r.r.r.l.r.l.l.r.l.l.r.l) (y := Cd6.r.r.r.r.r.r.l.r.l.l.r.l.l.r.r) (by kernel_rfl) ?_
              refine EW.seq (x := Cd6.r.r.r.r.r.r.l.r.l.l.r.l.l.r.l.l) (y := Cd6.r.r.r.r.r.r.l.r.l.l.r.l.l.r.l.r) (by kernel_rfl) ?_
              refine EW.region (id := 14) (ops := Cd6.r.r.r.r.r.r.l.r.l.l.r.l.l.r.l.l.ops) (by kernel_rfl) ?_
              refine EL.quick 8 [3, 4, 6, 7, 8, 39] [(3, .int .i64 (IntKind.i64.wrap (Int.tmod a2 64))), (4, .pointer (some ⟨g3308, 0, none⟩)), (6, .int .i64 x5901), (7, .int .i64 x5902), (8, .slice A6470 t6469.length C6471), (39, .bool (!(decide ((t6469.length : Int) = (IntKind.i64.wrap (Int.tdiv (IntKind.i64.wrap ((IntKind.i64.wrap ((IntKind.i64.wrap (Int.tmod a2 64)) - x5901)) + 1)) 2))))))] (by kernel_rfl) ?_
              refine EL.done (by kernel_rfl) ?_
              refine EQ.code ?_
              refine EW.condQ (b := !(decide ((t6469.length : Int) = (IntKind.i64.wrap (Int.tdiv (IntKind.i64.wrap ((IntKind.i64.wrap ((IntKind.i64.wrap (Int.tmod a2 64)) - x5901)) + 1)) 2))))) (o := (.tmp 39)) (x := Cd6.r.r.r.r.r.r.l.r.l.l.r.l.l.r.l.r.l) (y := Cd6.r.r.r.r.r.r.l.r.l.l.r.l.l.r.l.r.r) ((t6469.length : Int) = (IntKind.i64.wrap (Int.tdiv (IntKind.i64.wrap ((IntKind.i64.wrap ((IntKind.i64.wrap (Int.tmod a2 64)) - x5901)) + 1)) 2))) (false) (by kernel_rfl) (by kernel_rfl) ⟨fun h => (by rw [decide_eq_true h] <;> rfl), fun h => (by rw [decide_eq_false h] <;> rfl)⟩ (fun h6474 => ?_) (fun h6474 => ?_)
              · rw [if_pos h6474] at H
                refine EW.skip (by kernel_rfl) ?_
                refine EQ.code ?_
                refine EW.seq (x := Cd6.r.r.r.r.r.r.l.r.l.l.r.l.l.r.r.l) (y := Cd6.r.r.r.r.r.r.l.r.l.l.r.l.l.r.r.r) (by kernel_rfl) ?_
                refine EW.region (id := 16) (ops := Cd6.r.r.r.r.r.r.l.r.l.l.r.l.l.r.r.l.ops) (by kernel_rfl) ?_
                refine EL.quick 1 [3, 4, 6, 7, 8, 9] [(3, .int .i64 (IntKind.i64.wrap (Int.tmod a2 64))), (4, .pointer (some ⟨g3308, 0, none⟩)), (6, .int .i64 x5901), (7, .int .i64 x5902), (8, .slice A6470 t6469.length C6471), (9, .int .i64 0)] (by kernel_rfl) ?_
                refine EL.done (by kernel_rfl) ?_
                refine EQ.code ?_
                refine EW.block (x := Cd6.r.r.r.r.r.r.l.r.l.l.r.l.l.r.r.r.l) (id := 4) (by kernel_rfl) ?_
                refine EW.loop (x := Cd6.r.r.r.r.r.r.l.r.l.l.r.l.l.r.r.r.l.l) (fun n a w => ∃ x6501 : Int, ∃ x6502 : Int, Sat 64 [(3, .int .i64 (IntKind.i64.wrap (Int.tmod a2 64))), (4, .pointer (some ⟨g3308, 0, none⟩)), (6, .int .i64 x6501), (7, .int .i64 x5902), (8, .slice A6470 t6469.length C6471), (9, .int .i64 x6502)] a ∧ St B w (Ass.box 90 g3308 [.slice A3474 x3473.length C3475, .int .i64 t6467, .int .i64 t6468] :: Ass.own 37 kS37 A3474 C3475 x3473 :: Ass.own 37 kS37 A6470 C6471 t6469 :: os) (rs) ∧ confidantlaw15_RingHalves.l2 K t6469 j6460 t6467 t6468 n x6501 x6502 = some x3287) K (by kernel_rfl) ?_ (fun n a w hI => ?_)
                · refine EQ.keep [3, 4, 6, 7, 8, 9] [(3, .int .i64 (IntKind.i64.wrap (Int.tmod a2 64))), (4, .pointer (some ⟨g3308, 0, none⟩)), (6, .int .i64 x5901), (7, .int .i64 x5902), (8, .slice A6470 t6469.length C6471), (9, .int .i64 0)] (by kernel_rfl) ?_
                  exact fun a ha => ⟨x5901, 0, ha, (hS.re [2, 2, 2] [] rfl (sub_self)), H⟩
                · obtain ⟨x6501, x6502, ha, hS, H⟩ := hI
                  obtain _ | n := n
                  · simp [confidantlaw15_RingHalves.l2] at H
                  rw [confidantlaw15_RingHalves.l2.eq_2] at H
                  refine EW.at ?_ a ha
                  clear ha a
                  refine EW.seq (x := Cd6.r.r.r.r.r.r.l.r.l.l.r.l.l.r.r.r.l.l.l) (y := Cd6.r.r.r.r.r.r.l.r.l.l.r.l.l.r.r.r.l.l.r) (by kernel_rfl) ?_
                  refine EW.seq (x := Cd6.r.r.r.r.r.r.l.r.l.l.r.l.l.r.r.r.l.l.l.l) (y := Cd6.r.r.r.r.r.r.l.r.l.l.r.l.l.r.r.r.l.l.l.r) (by kernel_rfl) ?_
                  refine EW.region (id := 17) (ops := Cd6.r.r.r.r.r.r.l.r.l.l.r.l.l.r.r.r.l.l.l.l.ops) (by kernel_rfl) ?_
                  refine EL.quick 4 [3, 4, 6, 7, 8, 9, 43] [(3, .int .i64 (IntKind.i64.wrap (Int.tmod a2 64))), (4, .pointer (some ⟨g3308, 0, none⟩)), (6, .int .i64 x6501), (7, .int .i64 x5902), (8, .slice A6470 t6469.length C6471), (9, .int .i64 x6502), (43, .bool (decide (x6502 < (t6469.length : Int))))] (by kernel_rfl) ?_
                  refine EL.done (by kernel_rfl) ?_
                  refine EQ.code ?_
                  refine EW.condP (o := (.tmp 43)) (x := Cd6.r.r.r.r.r.r.l.r.l.l.r.l.l.r.r.r.l.l.l.r.l) (y := Cd6.r.r.r.r.r.r.l.r.l.l.r.l.l.r.r.r.l.l.l.r.r) (x6502 < (t6469.length : Int)) (by kernel_rfl) (by kernel_rfl) (fun h6538 => ?_) (fun h6538 => ?_)
                  · rw [if_pos h6538] at H
                    refine EW.skip (by kernel_rfl) ?_
                    refine EQ.code ?_
                    refine EW.seq (x := Cd6.r.r.r.r.r.r.l.r.l.l.r.l.l.r.r.r.l.l.r.l) (y := Cd6.r.r.r.r.r.r.l.r.l.l.r.l.l.r.r.r.l.l.r.r) (by kernel_rfl) ?_
                    refine EW.block (x := Cd6.r.r.r.r.r.r.l.r.l.l.r.l.l.r.r.r.l.l.r.l.l) (id := 5) (by kernel_rfl) ?_
                    refine EW.seq (x := Cd6.r.r.r.r.r.r.l.r.l.l.r.l.l.r.r.r.l.l.r.l.l.l) (y := Cd6.r.r.r.r.r.r.l.r.l.l.r.l.l.r.r.r.l.l.r.l.l.r) (by kernel_rfl) ?_
                    refine EW.seq (x := Cd6.r.r.r.r.r.r.l.r.l.l.r.l.l.r.r.r.l.l.r.l.l.l.l) (y := Cd6.r.r.r.r.r.r.l.r.l.l.r.l.l.r.r.r.l.l.r.l.l.l.r) (by kernel_rfl) ?_
                    refine EW.region (id := 19) (ops := Cd6.r.r.r.r.r.r.l.r.l.l.r.l.l.r.r.r.l.l.r.l.l.l.l.ops) (by kernel_rfl) ?_
                    refine EL.quick 2 [3, 4, 6, 7, 8, 9, 46, 47] [(3, .int .i64 (IntKind.i64.wrap (Int.tmod a2 64))), (4, .pointer (some ⟨g3308, 0, none⟩)), (6, .int .i64 x6501), (7, .int .i64 x5902), (8, .slice A6470 t6469.length C6471), (9, .int .i64 x6502), (46, .slice A6470 t6469.length C6471), (47, .int .i64 x6502)] (by kernel_rfl) ?_
                    obtain ⟨h6563, H⟩ := ite_in H
                    obtain ⟨ad6564, rfl⟩ := St.rd_some hS (Rd.own 2 37 rfl) h6563 h6538
                    refine EL.of (EO.Y (YO.idx 30 12 ad6564 t6469.length C6471 .i64 x6502 48 (by kernel_rfl) (by kernel_rfl) (by kernel_rfl) (by kernel_rfl) h6563 h6538) ?_)
                    refine EL.quick 1 [3, 4, 6, 7, 8, 9, 49] [(3, .int .i64 (IntKind.i64.wrap (Int.tmod a2 64))), (4, .pointer (some ⟨g3308, 0, none⟩)), (6, .int .i64 x6501), (7, .int .i64 x5902), (8, .slice (some ad6564) t6469.length C6471), (9, .int .i64 x6502), (49, .pointer (some ((ad6564.add (x6502.toNat * 12)).add 0)))] (by kernel_rfl) ?_
                    refine EL.of (EO.loadPt hS kS37 ad6564 C6471 t6469 (Rd.own 2 37 rfl) zS37 cellsS37 factsS37 partsS37 x6502 h6563 h6538 21 12 0 1 rfl (fun b6565 => .int .i32 ((t6469.getD x6502.toNat zS37).f0)) 50 (by kernel_rfl) (by kernel_rfl) (by kernel_rfl) (fun b6565 => (by kernel_rfl)) ?_)
                    intro b6565 hS
                    refine EL.quick 3 [3, 4, 6, 7, 8, 9, 53] [(3, .int .i64 (IntKind.i64.wrap (Int.tmod a2 64))), (4, .pointer (some ⟨g3308, 0, none⟩)), (6, .int .i64 x6501), (7, .int .i64 x5902), (8, .slice (some ad6564) t6469.length C6471), (9, .int .i64 x6502), (53, .bool (!(decide ((IntKind.i64.wrap ((t6469.getD x6502.toNat zS37).f0)) = x6501))))] (by kernel_rfl) ?_
                    refine EL.done (by kernel_rfl) ?_
                    refine EQ.code ?_
                    refine EW.condQ (b := !(decide ((IntKind.i64.wrap ((t6469.getD x6502.toNat zS37).f0)) = x6501))) (o := (.tmp 53)) (x := Cd6.r.r.r.r.r.r.l.r.l.l.r.l.l.r.r.r.l.l.r.l.l.l.r.l) (y := Cd6.r.r.r.r.r.r.l.r.l.l.r.l.l.r.r.r.l.l.r.l.l.l.r.r) ((IntKind.i64.wrap ((t6469.getD x6502.toNat zS37).f0)) = x6501) (false) (by kernel_rfl) (by kernel_rfl) ⟨fun h => (by rw [decide_eq_true h] <;> rfl), fun h => (by rw [decide_eq_false h] <;> rfl)⟩ (fun h6566 => ?_) (fun h6566 => ?_)
                    · rw [if_pos h6566] at H
                      refine EW.skip (by kernel_rfl) ?_
                      refine EQ.code ?_
                      refine EW.region (id := 21) (ops := Cd6.r.r.r.r.r.r.l.r.l.l.r.l.l.r.r.r.l.l.r.l.l.r.ops) (by kernel_rfl) ?_
                      refine EL.quick 3 [3, 4, 6, 7, 8, 9] [(3, .int .i64 (IntKind.i64.wrap (Int.tmod a2 64))), (4, .pointer (some ⟨g3308, 0, none⟩)), (6, .int .i64 (IntKind.i64.wrap (x6501 + 1))), (7, .int .i64 x5902), (8, .slice (some ad6564) t6469.length C6471), (9, .int .i64 x6502)] (by kernel_rfl) ?_
                      refine EL.done (by kernel_rfl) ?_
                      refine EQ.pop ?_
                      refine EQ.code ?_
                      refine EW.region (id := 18) (ops := Cd6.r.r.r.r.r.r.l.r.l.l.r.l.l.r.r.r.l.l.r.r.ops) (by kernel_rfl) ?_
                      refine EL.quick 3 [3, 4, 6, 7, 8, 9] [(3, .int .i64 (IntKind.i64.wrap (Int.tmod a2 64))), (4, .pointer (some ⟨g3308, 0, none⟩)), (6, .int .i64 (IntKind.i64.wrap (x6501 + 1))), (7, .int .i64 x5902), (8, .slice (some ad6564) t6469.length C6471), (9, .int .i64 (IntKind.i64.wrap (x6502 + 1)))] (by kernel_rfl) ?_
                      refine EL.done (by kernel_rfl) ?_
                      refine EQ.to ?_
                      refine EQ.keep [3, 4, 6, 7, 8, 9] [(3, .int .i64 (IntKind.i64.wrap (Int.tmod a2 64))), (4, .pointer (some ⟨g3308, 0, none⟩)), (6, .int .i64 (IntKind.i64.wrap (x6501 + 1))), (7, .int .i64 x5902), (8, .slice (some ad6564) t6469.length C6471), (9, .int .i64 (IntKind.i64.wrap (x6502 + 1)))] (by kernel_rfl) ?_
                      exact fun a ha => ⟨n, Nat.lt_succ_self n, IntKind.i64.wrap (x6501 + 1), IntKind.i64.wrap (x6502 + 1), ha, (hS.re [2, 2, 2] [] rfl (sub_tail (sub_self))), H⟩
                    · rw [if_neg h6566] at H
                      refine EW.seq (x := Cd6.r.r.r.r.r.r.l.r.l.l.r.l.l.r.r.r.l.l.r.l.l.l.r.l.l) (y := Cd6.r.r.r.r.r.r.l.r.l.l.r.l.l.r.r.r.l.l.r.l.l.l.r.l.r) (by kernel_rfl) ?_
                      refine EW.region (id := 20) (ops := Cd6.r.r.r.r.r.r.l.r.l.l.r.l.l.r.r.r.l.l.r.l.l.l.r.l.l.ops) (by kernel_rfl) ?_
                      refine EL.quick 1 [2] [(2, .bool (false))] (by kernel_rfl) ?_
                      refine EL.done (by kernel_rfl) ?_
                      refine EQ.code ?_
                      refine EW.ret (by kernel_rfl) ?_
                      refine EQ.ret ?_
                      refine EQ.ret ?_
                      refine EQ.ret ?_
                      refine EQ.ret ?_
                      refine EQ.ret ?_
                      refine EQ.ret ?_
                      refine EQ.ret ?_
                      refine EQ.ret ?_
                      refine EQ.ret ?_
                      refine EQ.ret ?_
                      obtain rfl := Option.some.inj H
                      exact EQ.leave (.bool (false)) (by kernel_rfl) ⟨_, rfl, rfl, (hS.re [] [0, 0, 0] rfl (sub_tail (sub_self)))⟩
                  · rw [if_neg h6538] at H
                    refine EW.exit (id := 4) (by kernel_rfl) ?_
                    refine EQ.exitCode ?_
                    refine EQ.exitTo ?_
                    refine EQ.exitHere ?_
                    refine EQ.pop ?_
                    refine EQ.to ?_
                    refine EQ.keep [3, 4, 6, 7] [(3, .int .i64 (IntKind.i64.wrap (Int.tmod a2 64))), (4, .pointer (some ⟨g3308, 0, none⟩)), (6, .int .i64 x6501), (7, .int .i64 x5902)] (by kernel_rfl) ?_
                    exact fun a ha => ⟨t6467, t6468, t6469, x6501, A6470, C6471, ha, (hS.re [2, 2, 2] [] rfl (sub_self)), H⟩
              · rw [if_neg h6474] at H
                refine EW.seq (x := Cd6.r.r.r.r.r.r.l.r.l.l.r.l.l.r.l.r.l.l) (y := Cd6.r.r.r.r.r.r.l.r.l.l.r.l.l.r.l.r.l.r) (by kernel_rfl) ?_
                refine EW.region (id := 15) (ops := Cd6.r.r.r.r.r.r.l.r.l.l.r.l.l.r.l.r.l.l.ops) (by kernel_rfl) ?_
                refine EL.quick 1 [2] [(2, .bool (false))] (by kernel_rfl) ?_
                refine EL.done (by kernel_rfl) ?_
                refine EQ.code ?_
                refine EW.ret (by kernel_rfl) ?_
                refine EQ.ret ?_
                refine EQ.ret ?_
                refine EQ.ret ?_
                refine EQ.ret ?_
                refine EQ.ret ?_
                refine EQ.ret ?_
                obtain rfl := Option.some.inj H
                exact EQ.leave (.bool (false)) (by kernel_rfl) ⟨_, rfl, rfl, (hS.re [] [0, 0, 0] rfl (sub_self))⟩
            · obtain ⟨x6454, x6455, x6456, x6459, A6457, C6458, ha, hS, H⟩ := hI
              rw [hj6460] at H
              (try dsimp only at H)
              refine EW.at ?_ a ha
              clear ha a
              refine EW.region (id := 12) (ops := Cd6.r.r.r.r.r.r.l.r.l.l.r.r.ops) (by kernel_rfl) ?_
              refine EL.quick 3 [3, 4, 6, 7] [(3, .int .i64 (IntKind.i64.wrap (Int.tmod a2 64))), (4, .pointer (some ⟨g3308, 0, none⟩)), (6, .int .i64 x6459), (7, .int .i64 (IntKind.i64.wrap (x5902 + 1)))] (by kernel_rfl) ?_
              refine EL.done (by kernel_rfl) ?_
              refine EQ.to ?_
              refine EQ.keep [3, 4, 6, 7] [(3, .int .i64 (IntKind.i64.wrap (Int.tmod a2 64))), (4, .pointer (some ⟨g3308, 0, none⟩)), (6, .int .i64 x6459), (7, .int .i64 (IntKind.i64.wrap (x5902 + 1)))] (by kernel_rfl) ?_
              exact fun a ha => ⟨n, Nat.lt_succ_self n, x6454, x6455, x6459, IntKind.i64.wrap (x5902 + 1), ha, (hS.re [1, 1] [2] rfl (sub_self)), H⟩
          · rw [if_neg h6240] at H
            refine EW.exit (id := 2) (by kernel_rfl) ?_
            refine EQ.exitCode ?_
            refine EQ.exitTo ?_
            refine EQ.exitHere ?_
            refine EQ.to ?_
            refine EQ.keep [3, 4, 6] [(3, .int .i64 (IntKind.i64.wrap (Int.tmod a2 64))), (4, .pointer (some ⟨g3308, 0, none⟩)), (6, .int .i64 x5901)] (by kernel_rfl) ?_
            exact fun a ha => ⟨x5899, x5900, x5901, ha, (hS.re [1, 1] [] rfl (sub_self)), H⟩
      · obtain ⟨x5561, x5562, x5563, ha, hS, H⟩ := hI
        rw [hj5564] at H
        (try dsimp only at H)
        refine EW.at ?_ a ha
        clear ha a
        refine EW.seq (x := Cd6.r.r.r.r.r.r.r.l) (y := Cd6.r.r.r.r.r.r.r.r) (by kernel_rfl) ?_
        refine EW.region (id := 22) (ops := Cd6.r.r.r.r.r.r.r.l.ops) (by kernel_rfl) ?_
        refine EL.quick 4 [4, 59] [(4, .pointer (some ⟨g3308, 0, none⟩)), (59, .bool (decide (x5563 = (IntKind.i64.wrap (Int.tmod a2 64)))))] (by kernel_rfl) ?_
        by_cases h6567 : x5563 = (IntKind.i64.wrap (Int.tmod a2 64))
        · rw [if_pos h6567] at H
          refine EL.keep [4, 59] [(4, .pointer (some ⟨g3308, 0, none⟩)), (59, .bool (decide (x5563 = (IntKind.i64.wrap (Int.tmod a2 64)))))] (by kernel_rfl) ?_
          refine EL.as' [(4, .pointer (some ⟨g3308, 0, none⟩)), (59, .bool (true))] (by simp only [dec_t h6567, Bool.not_true, Bool.not_false]) ?_
          refine EL.quick 1 [59, 60] [(59, .bool (true)), (60, .pointer (some ⟨g3308, 0, none⟩))] (by kernel_rfl) ?_
          obtain ⟨t6568, t6569, t6570, hc6571, H⟩ := b3_out H
          refine EL.of (EO.callD 29 [.pointer (some ⟨g3308, 0, none⟩)] _ 61 (by kernel_rfl) (by kernel_rfl) (by kernel_rfl) (ring_Ring_Len.calls hc6571 hS) ?_)
          rintro v w ⟨rfl, hS⟩
          refine EL.quick 3 [2] [(2, .bool (decide (t6570 = 0)))] (by kernel_rfl) ?_
          refine EL.done (by kernel_rfl) ?_
          refine EQ.code ?_
          refine EW.ret (by kernel_rfl) ?_
          obtain rfl := Option.some.inj H
          exact EQ.leave (.bool (decide (t6570 = 0))) (by kernel_rfl) ⟨_, rfl, rfl, (hS.re [] [0, 0] rfl (sub_self))⟩
        · rw [if_neg h6567] at H
          refine EL.keep [4, 59] [(4, .pointer (some ⟨g3308, 0, none⟩)), (59, .bool (decide (x5563 = (IntKind.i64.wrap (Int.tmod a2 64)))))] (by kernel_rfl) ?_
          refine EL.as' [(4, .pointer (some ⟨g3308, 0, none⟩)), (59, .bool (false))] (by simp only [dec_f h6567, Bool.not_true, Bool.not_false]) ?_
          refine EL.quick 5 [2] [(2, .bool (false))] (by kernel_rfl) ?_
          refine EL.done (by kernel_rfl) ?_
          refine EQ.code ?_
          refine EW.ret (by kernel_rfl) ?_
          obtain rfl := Option.some.inj H
          exact EQ.leave (.bool (false)) (by kernel_rfl) ⟨_, rfl, rfl, (hS.re [] [0, 0] rfl (sub_self))⟩
  · rw [if_neg h3297] at H
    refine EW.seq (x := Cd6.r.l.r.l.l) (y := Cd6.r.l.r.l.r) (by kernel_rfl) ?_
    refine EW.region (id := 2) (ops := Cd6.r.l.r.l.l.ops) (by kernel_rfl) ?_
    refine EL.quick 1 [2] [(2, .bool (false))] (by kernel_rfl) ?_
    refine EL.done (by kernel_rfl) ?_
    refine EQ.code ?_
    refine EW.ret (by kernel_rfl) ?_
    refine EQ.ret ?_
    obtain rfl := Option.some.inj H
    exact EQ.leave (.bool (false)) (by kernel_rfl) ⟨_, rfl, rfl, (hS.re [] [] rfl (sub_self))⟩

def confidantlaw15_RingHalves.Pure : Prop := ∀ (a2 : Int), (Lit.int .u8 a2).wf = true → ∃ K, confidantlaw15_RingHalves.f K a2 = some true

structure S68 where
  f0 : Int
  f1 : Int
  f2 : Int
  f3 : Int
  f4 : Int
  f5 : Int
deriving DecidableEq
def zS68 : S68 := ⟨0, 0, 0, 0, 0, 0⟩
def kS68 : Kd S68 := Kd.iso (Kd.prod (Kd.int .u8) (Kd.prod (Kd.int .u8) (Kd.prod (Kd.int .u8) (Kd.prod (Kd.int .u8) (Kd.prod (Kd.int .i32) (Kd.prod (Kd.int .i32) Kd.unit)))))) (fun s => (s.f0, s.f1, s.f2, s.f3, s.f4, s.f5, ()))
def encS68 (s : S68) : List Value := [.int .u8 s.f0, .int .u8 s.f1, .int .u8 s.f2, .int .u8 s.f3, .int .i32 s.f4, .int .i32 s.f5]
theorem encS68_of (w : World) (G : Bl) (vs : List Value) (x : S68) (h : kS68.rep w G vs x) : vs = encS68 x := by
  obtain ⟨_, _, rfl, h0, ⟨_, _, rfl, h1, ⟨_, _, rfl, h2, ⟨_, _, rfl, h3, ⟨_, _, rfl, h4, ⟨_, _, rfl, h5, hu⟩⟩⟩⟩⟩⟩ := h
  have h0 := encI_of _ _ _ _ h0
  have h1 := encI_of _ _ _ _ h1
  have h2 := encI_of _ _ _ _ h2
  have h3 := encI_of _ _ _ _ h3
  have h4 := encI_of _ _ _ _ h4
  have h5 := encI_of _ _ _ _ h5
  have hu : _ = [] := hu
  subst hu
  subst h0
  subst h1
  subst h2
  subst h3
  subst h4
  subst h5
  rfl

structure S75 where
  f0 : Int
  f1 : Int
  f2 : Int
  f3 : Int
deriving DecidableEq
def zS75 : S75 := ⟨0, 0, 0, 0⟩
def kS75 : Kd S75 := Kd.iso (Kd.prod (Kd.int .i64) (Kd.prod (Kd.int .i64) (Kd.prod (Kd.int .i32) (Kd.prod (Kd.int .i64) Kd.unit)))) (fun s => (s.f0, s.f1, s.f2, s.f3, ()))
def encS75 (s : S75) : List Value := [.int .i64 s.f0, .int .i64 s.f1, .int .i32 s.f2, .int .i64 s.f3]
theorem encS75_of (w : World) (G : Bl) (vs : List Value) (x : S75) (h : kS75.rep w G vs x) : vs = encS75 x := by
  obtain ⟨_, _, rfl, h0, ⟨_, _, rfl, h1, ⟨_, _, rfl, h2, ⟨_, _, rfl, h3, hu⟩⟩⟩⟩ := h
  have h0 := encI_of _ _ _ _ h0
  have h1 := encI_of _ _ _ _ h1
  have h2 := encI_of _ _ _ _ h2
  have h3 := encI_of _ _ _ _ h3
  have hu : _ = [] := hu
  subst hu
  subst h0
  subst h1
  subst h2
  subst h3
  rfl

noncomputable def Cd11 : Code := bodyOf Try.f11

noncomputable def Cd42 : Code := bodyOf Try.f42

noncomputable def Cd43 : Code := bodyOf Try.f43

noncomputable def Cd44 : Code := bodyOf Try.f44

noncomputable def Cd45 : Code := bodyOf Try.f45

noncomputable def Cd46 : Code := bodyOf Try.f46

noncomputable def Cd47 : Code := bodyOf Try.f47

noncomputable def Cd48 : Code := bodyOf Try.f48

noncomputable def Cd49 : Code := bodyOf Try.f49

noncomputable def Cd50 : Code := bodyOf Try.f50

noncomputable def Cd51 : Code := bodyOf Try.f51

noncomputable def Cd52 : Code := bodyOf Try.f52

noncomputable def Cd53 : Code := bodyOf Try.f53

noncomputable def Cd54 : Code := bodyOf Try.f54

noncomputable def Cd55 : Code := bodyOf Try.f55

noncomputable def Cd56 : Code := bodyOf Try.f56

noncomputable def Cd57 : Code := bodyOf Try.f57

noncomputable def Cd66 : Code := bodyOf Try.f66

noncomputable def Cd67 : Code := bodyOf Try.f67

noncomputable def Cd68 : Code := bodyOf Try.f68

noncomputable def Cd69 : Code := bodyOf Try.f69

noncomputable def Cd70 : Code := bodyOf Try.f70

noncomputable def Cd71 : Code := bodyOf Try.f71

noncomputable def Cd72 : Code := bodyOf Try.f72

noncomputable def Cd73 : Code := bodyOf Try.f73

noncomputable def Cd74 : Code := bodyOf Try.f74

noncomputable def Cd75 : Code := bodyOf Try.f75

noncomputable def Cd76 : Code := bodyOf Try.f76

noncomputable def Cd80 : Code := bodyOf Try.f80

noncomputable def Cd81 : Code := bodyOf Try.f81

noncomputable def Cd83 : Code := bodyOf Try.f83

noncomputable def Cd84 : Code := bodyOf Try.f84

noncomputable def Cd85 : Code := bodyOf Try.f85

end Go.Proofs.Ytjfnejcanlkknaa.G
