import Derived.Test.YtlcnkngpankkpaaProg
import Derived.Test.YtlcnkngpankkpaaFwEq
import Derived.Test.YtlcnkngpankkpaaFwOpen
import Derived.Test.YtlcnkngpankkpaaG0
import Derived.Test.YtlcnkngpankkpaaG1
import Derived.Test.YtlcnkngpankkpaaG7
namespace Go.Proofs.Ytlcnkngpankkpaa.G
open Go Go.Fw Go.RowKit Go.Proofs
set_option linter.unusedVariables false
set_option linter.unusedSimpArgs false

/-! ### confidant/confidantlaw8.VerifyEnds: function 7 -/
def confidantlaw8_VerifyEnds.l1 (K : Nat) (a0 : List Int) (d4 : Option Bool) : Nat → Int → Option Bool
 | 0, _ => none
 | n + 1, b8 => if b8 < (a0.length : Int) then (if 0 ≤ b8 then (if (a0.getD b8.toNat 0) = (-1) then (confidantlaw8_VerifyEnds.l1 K a0 d4 n (IntKind.i64.wrap (b8 + 1))) else (some false)) else none) else (d4)
def confidantlaw8_VerifyEnds.l0 (K : Nat) (l6 : List S51) (d3 : (List S32) → Option Bool) : Nat → (List S32) → Int → Option Bool
 | 0, _, _ => none
 | n + 1, a7, a6 => if a6 < (l6.length : Int) then (if 0 ≤ a6 then (b2 (confidantseat_Instr.f K ((l6.getD a6.toNat zS51).f0) ((l6.getD a6.toNat zS51).f1)) fun (b9 : Int) (c8 : Int) => (lt (fun (c3 : Int) => (lt ([(⟨b9, c3⟩ : S32)] : List S32) fun e2 => (if (a7.length + e2.length) * 16 ≤ 140737488355328 then (lt (a7 ++ e2) fun d1 => (confidantlaw8_VerifyEnds.l0 K l6 d3 n d1 (IntKind.i64.wrap (a6 + 1)))) else none))) fun f5 => (b1 (confidantref5_Arg.f K b9) fun (f6 : Int) => (if f6 > 1 then (f5 0) else (f5 c8))))) else none) else (d3 a7)
def confidantlaw8_VerifyEnds.f (K : Nat) (l6 : List S51) (a9 : Bool) (a10 : Int) : Option Bool := b1 (confidantlaw8_known.f K) fun (e5 : Bool) => (if e5 = true then (if (l6.length : Int) > 20 then (some true) else (lt ([(⟨1, 1⟩ : S32)] : List S32) fun a1 => (lt (fun (c5 : Int) => (if (([] : List S32).length + a1.length) * 16 ≤ 140737488355328 then (lt (([] : List S32) ++ a1) fun d5 => (lt ([(⟨c5, 0⟩ : S32)] : List S32) fun b6 => (if (d5.length + b6.length) * 16 ≤ 140737488355328 then (lt (d5 ++ b6) fun d0 => (lt (fun (a4 : List S32) => (b2 (verify_Func.f K a4 1 1 1) fun (j9 : Int) (c4 : Int) => (b1 (verify_Depths.f K a4) fun (a0 : List Int) => (b2 (verify_Func.f K a1 1 1 1) fun (c1 : Int) (c0 : Int) => (lt (fun (e3 : Bool) => (if e3 = true then (some false) else (lt (if (0 : Int) < (a0.length : Int) then (if (a0.getD (0 : Int).toNat 0) = 0 then (if (1 : Int) < (a0.length : Int) then (some (decide ((a0.getD (1 : Int).toNat 0) = 1))) else none) else (some false)) else none) fun d4 => (confidantlaw8_VerifyEnds.l1 K a0 d4 K 2)))) fun e1 => (if c4 = 0 then (if (a0.length : Int) = (a4.length : Int) then (if c1 = 0 then (e1 (!(decide (c0 = 24)))) else (e1 true)) else (e1 true)) else (e1 true))))))) fun d3 => (confidantlaw8_VerifyEnds.l0 K l6 d3 K d0 0))) else none))) else none)) fun f4 => (if a9 = true then (f4 25) else (f4 26))))) else (some false))
set_option maxRecDepth 100000 in
theorem confidantlaw8_VerifyEnds.calls {K : Nat} {l6 : List S51} {a9 : Bool} {a10 : Int} {A7 : Option Addr} {C8 : Nat} {c9 : Bool} {B w : World} {os : List Ass} {rs : List Ro} (H : confidantlaw8_VerifyEnds.f K l6 a9 a10 = some c9) (hS : St B w (os) (Ro.sl kS51 A7 C8 l6 :: rs)) :
  Calls Try.prog 7 [.slice A7 l6.length C8, .bool (a9), .int .u8 a10].toArray w (fun en w' => ∃ v, en = .returned v ∧ v = .bool (c9) ∧ St B w' (os) (Ro.sl kS51 A7 C8 l6 :: rs)) := by
 unfold confidantlaw8_VerifyEnds.f at H
 refine calls_of_EW (args := [.slice A7 l6.length C8, .bool (a9), .int .u8 a10]) (c := Cd7) 108 Try.func7 (by kernel_rfl) (by kernel_rfl) (by kernel_rfl) ?_
 refine EW.seq (x := Cd7.l) (y := Cd7.r) (by kernel_rfl) ?_
 refine EW.region (id := 0) (ops := Cd7.l.ops) (by kernel_rfl) ?_
 refine EL.quick 1 [0, 1] [(0, .slice A7 l6.length C8), (1, .bool (a9))] (by kernel_rfl) ?_
 refine EL.done (by kernel_rfl) ?_
 refine EQ.code ?_
 refine EW.seq (x := Cd7.r.l) (y := Cd7.r.r) (by kernel_rfl) ?_
 refine EW.seq (x := Cd7.r.l.l) (y := Cd7.r.l.r) (by kernel_rfl) ?_
 refine EW.region (id := 1) (ops := Cd7.r.l.l.ops) (by kernel_rfl) ?_
 obtain ⟨e5, i6, H⟩ := b1_out H
 refine EL.of (EO.callD 12 [] _ 18 (by kernel_rfl) (by kernel_rfl) (by kernel_rfl) (confidantlaw8_known.calls i6 hS) ?_)
 rintro v w ⟨rfl, hS⟩
 refine EL.quick 1 [0, 1, 19] [(0, .slice A7 l6.length C8), (1, .bool (a9)), (19, .bool (!(e5)))] (by kernel_rfl) ?_
 refine EL.done (by kernel_rfl) ?_
 refine EQ.code ?_
 refine EW.condQ (b := !(e5)) (o := (.tmp 19)) (x := Cd7.r.l.r.l) (y := Cd7.r.l.r.r) (e5 = true) (false) (by kernel_rfl) (by kernel_rfl) ⟨fun h => (by rw [h] <;> rfl), fun h => (by rw [Bool.eq_false_iff.2 h] <;> rfl)⟩ (fun f9 => ?_) (fun f9 => ?_)
 ·rw [if_pos f9] at H
  refine EW.skip (by kernel_rfl) ?_
  refine EQ.code ?_
  refine EW.seq (x := Cd7.r.r.l) (y := Cd7.r.r.r) (by kernel_rfl) ?_
  refine EW.seq (x := Cd7.r.r.l.l) (y := Cd7.r.r.l.r) (by kernel_rfl) ?_
  refine EW.region (id := 3) (ops := Cd7.r.r.l.l.ops) (by kernel_rfl) ?_
  refine EL.quick 3 [0, 1, 22] [(0, .slice A7 l6.length C8), (1, .bool (a9)), (22, .bool (decide ((l6.length : Int) > 20)))] (by kernel_rfl) ?_
  refine EL.done (by kernel_rfl) ?_
  refine EQ.code ?_
  refine EW.condP (o := (.tmp 22)) (x := Cd7.r.r.l.r.l) (y := Cd7.r.r.l.r.r) ((l6.length : Int) > 20) (by kernel_rfl) (by kernel_rfl) (fun g0 => ?_) (fun g0 => ?_)
  ·rw [if_pos g0] at H
   refine EW.seq (x := Cd7.r.r.l.r.l.l) (y := Cd7.r.r.l.r.l.r) (by kernel_rfl) ?_
   refine EW.region (id := 4) (ops := Cd7.r.r.l.r.l.l.ops) (by kernel_rfl) ?_
   refine EL.quick 1 [6] [(6, .bool (true))] (by kernel_rfl) ?_
   refine EL.done (by kernel_rfl) ?_
   refine EQ.code ?_
   refine EW.ret (by kernel_rfl) ?_
   refine EQ.ret ?_
   obtain rfl := Option.some.inj H
   exact EQ.leave (.bool (true)) (by kernel_rfl) ⟨_, rfl, rfl, (hS.re [] [] rfl (sub_self))⟩
  ·rw [if_neg g0] at H
   refine EW.skip (by kernel_rfl) ?_
   refine EQ.code ?_
   refine EW.seq (x := Cd7.r.r.r.l) (y := Cd7.r.r.r.r) (by kernel_rfl) ?_
   refine EW.region (id := 5) (ops := Cd7.r.r.r.l.ops) (by kernel_rfl) ?_
   refine EL.quick 1 [0, 1, 7] [(0, .slice A7 l6.length C8), (1, .bool (a9)), (7, .int .i64 26)] (by kernel_rfl) ?_
   refine EL.done (by kernel_rfl) ?_
   refine EQ.code ?_
   refine EW.seq (x := Cd7.r.r.r.r.l) (y := Cd7.r.r.r.r.r) (by kernel_rfl) ?_
   refine EW.region (id := 6) (ops := Cd7.r.r.r.r.l.ops) (by kernel_rfl) ?_
   refine EL.quick 1 [0, 1, 7, 23] [(0, .slice A7 l6.length C8), (1, .bool (a9)), (7, .int .i64 26), (23, .agg #[.int .i64 1, .int .i32 1])] (by kernel_rfl) ?_
   obtain ⟨a1, i0, H⟩ := lt_out H
   refine EL.of (EO.lit hS kS32 32 29 1 #[(0, .agg #[.int .i64 1, .int .i32 1])] [.int .i64 1, .int .i32 1] a1 24 (by kernel_rfl) (by kernel_rfl) (by kernel_rfl) (fun _ => (by kernel_rfl)) (by rw [i0]; rfl) (by kernel_rfl) (fun w G hr => (by rw [i0]; exact ⟨[.int .i64 1, .int .i32 1], [], rfl, ⟨[.int .i64 1], [.int .i32 1], rfl, rfl, ⟨[.int .i32 1], [], rfl, rfl, rfl⟩⟩, rfl⟩)) ?_)
   intro a2 w hS
   refine EL.quick 1 [0, 1, 7, 8] [(0, .slice A7 l6.length C8), (1, .bool (a9)), (7, .int .i64 26), (8, .slice (some ⟨a2, 0, none⟩) a1.length 1)] (by kernel_rfl) ?_
   refine EL.done (by kernel_rfl) ?_
   refine EQ.code ?_
   obtain ⟨f4, j1, H⟩ := lt_out H
   refine EW.cut (x := Cd7.r.r.r.r.r.l) (y := Cd7.r.r.r.r.r.r) (fun a w => ∃ c5 : Int, Sat 108 [(0, .slice A7 l6.length C8), (7, .int .i64 c5), (8, .slice (some ⟨a2, 0, none⟩) a1.length 1)] a ∧ St B w (Ass.own 32 kS32 (some ⟨a2, 0, none⟩) 1 a1 :: os) (Ro.sl kS51 A7 C8 l6 :: rs) ∧ f4 c5 = some c9) (by kernel_rfl) ?_ (fun a w hI => ?_)
   ·refine EW.seq (x := Cd7.r.r.r.r.r.l.l) (y := Cd7.r.r.r.r.r.l.r) (by kernel_rfl) ?_
    refine EW.region (id := 7) (ops := Cd7.r.r.r.r.r.l.l.ops) (by kernel_rfl) ?_
    refine EL.quick 1 [0, 7, 8, 25] [(0, .slice A7 l6.length C8), (7, .int .i64 26), (8, .slice (some ⟨a2, 0, none⟩) a1.length 1), (25, .bool (a9))] (by kernel_rfl) ?_
    refine EL.done (by kernel_rfl) ?_
    refine EQ.code ?_
    refine EW.condP' (o := (.tmp 25)) (x := Cd7.r.r.r.r.r.l.r.l) (y := Cd7.r.r.r.r.r.l.r.r) (a9) (by kernel_rfl) (by kernel_rfl) (fun g1 => ?_) (fun g1 => ?_)
    ·rw [if_pos g1] at H
     refine EW.region (id := 8) (ops := Cd7.r.r.r.r.r.l.r.l.ops) (by kernel_rfl) ?_
     refine EL.quick 1 [0, 7, 8] [(0, .slice A7 l6.length C8), (7, .int .i64 25), (8, .slice (some ⟨a2, 0, none⟩) a1.length 1)] (by kernel_rfl) ?_
     refine EL.done (by kernel_rfl) ?_
     refine EQ.to ?_
     refine EQ.keep [0, 7, 8] [(0, .slice A7 l6.length C8), (7, .int .i64 25), (8, .slice (some ⟨a2, 0, none⟩) a1.length 1)] (by kernel_rfl) ?_
     exact fun a ha => ⟨25, ha, (hS.re [0] [] rfl (sub_cons 0 rfl (sub_tail (sub_self)))), H⟩
    ·rw [if_neg g1] at H
     refine EW.skip (by kernel_rfl) ?_
     refine EQ.to ?_
     refine EQ.keep [0, 7, 8] [(0, .slice A7 l6.length C8), (7, .int .i64 26), (8, .slice (some ⟨a2, 0, none⟩) a1.length 1)] (by kernel_rfl) ?_
     exact fun a ha => ⟨26, ha, (hS.re [0] [] rfl (sub_cons 0 rfl (sub_tail (sub_self)))), H⟩
   ·obtain ⟨c5, ha, hS, H⟩ := hI
    rw [j1] at H
    (try dsimp only at H)
    refine EW.at ?_ a ha
    clear ha a
    refine EW.seq (x := Cd7.r.r.r.r.r.r.l) (y := Cd7.r.r.r.r.r.r.r) (by kernel_rfl) ?_
    refine EW.region (id := 9) (ops := Cd7.r.r.r.r.r.r.l.ops) (by kernel_rfl) ?_
    refine EL.quick 1 [0, 7, 8, 26] [(0, .slice A7 l6.length C8), (7, .int .i64 c5), (8, .slice (some ⟨a2, 0, none⟩) a1.length 1), (26, .slice (some ⟨a2, 0, none⟩) a1.length 1)] (by kernel_rfl) ?_
    have hS := St.nilO hS 32 kS32
    obtain ⟨i3, H⟩ := ite_in H
    obtain ⟨d5, j6, H⟩ := lt_out H
    refine EL.of (EO.append hS 29 29 32 16 0 kS32 none 0 ([] : List S32) rfl (some ⟨a2, 0, none⟩) 1 a1 (Rd.own 1 32 rfl) d5 j6 (fun e6 e7 => Ass.own 32 kS32 e6 e7 d5 :: Ass.own 32 kS32 (some ⟨a2, 0, none⟩) 1 a1 :: os) 27 (by kernel_rfl) (by kernel_rfl) (by kernel_rfl) (by kernel_rfl) i3 (fun _ _ => rfl) ?_)
    intro e6 e7 w hS
    refine EL.quick 2 [0, 8, 27, 29] [(0, .slice A7 l6.length C8), (8, .slice (some ⟨a2, 0, none⟩) a1.length 1), (27, .slice e6 d5.length e7), (29, .agg #[.int .i64 c5, .int .i32 0])] (by kernel_rfl) ?_
    obtain ⟨b6, i1, H⟩ := lt_out H
    refine EL.of (EO.lit hS kS32 32 29 1 #[(0, .agg #[.int .i64 c5, .int .i32 0])] [.int .i64 c5, .int .i32 0] b6 30 (by kernel_rfl) (by kernel_rfl) (by kernel_rfl) (fun _ => (by kernel_rfl)) (by rw [i1]; rfl) (by kernel_rfl) (fun w G hr => (by rw [i1]; exact ⟨[.int .i64 c5, .int .i32 0], [], rfl, ⟨[.int .i64 c5], [.int .i32 0], rfl, rfl, ⟨[.int .i32 0], [], rfl, rfl, rfl⟩⟩, rfl⟩)) ?_)
    intro b7 w hS
    obtain ⟨i4, H⟩ := ite_in H
    obtain ⟨d0, j7, H⟩ := lt_out H
    refine EL.of (EO.append hS 29 29 32 16 1 kS32 e6 e7 d5 rfl (some ⟨b7, 0, none⟩) 1 b6 (Rd.own 0 32 rfl) d0 j7 (fun d6 d8 => Ass.own 32 kS32 (some ⟨b7, 0, none⟩) 1 b6 :: Ass.own 32 kS32 d6 d8 d0 :: Ass.own 32 kS32 (some ⟨a2, 0, none⟩) 1 a1 :: os) 31 (by kernel_rfl) (by kernel_rfl) (by kernel_rfl) (by kernel_rfl) i4 (fun _ _ => rfl) ?_)
    intro d6 d8 w hS
    refine EL.quick 1 [0, 8, 9] [(0, .slice A7 l6.length C8), (8, .slice (some ⟨a2, 0, none⟩) a1.length 1), (9, .slice d6 d0.length d8)] (by kernel_rfl) ?_
    refine EL.done (by kernel_rfl) ?_
    refine EQ.code ?_
    obtain ⟨d3, j2, H⟩ := lt_out H
    refine EW.cut (x := Cd7.r.r.r.r.r.r.r.l) (y := Cd7.r.r.r.r.r.r.r.r) (fun a w => ∃ a4 : List S32, ∃ a8 : Option Addr, ∃ b0 : Nat, Sat 108 [(8, .slice (some ⟨a2, 0, none⟩) a1.length 1), (9, .slice a8 a4.length b0)] a ∧ St B w (Ass.own 32 kS32 (some ⟨b7, 0, none⟩) 1 b6 :: Ass.own 32 kS32 a8 b0 a4 :: Ass.own 32 kS32 (some ⟨a2, 0, none⟩) 1 a1 :: os) (Ro.sl kS51 A7 C8 l6 :: rs) ∧ d3 a4 = some c9) (by kernel_rfl) ?_ (fun a w hI => ?_)
    ·refine EW.seq (x := Cd7.r.r.r.r.r.r.r.l.l) (y := Cd7.r.r.r.r.r.r.r.l.r) (by kernel_rfl) ?_
     refine EW.region (id := 10) (ops := Cd7.r.r.r.r.r.r.r.l.l.ops) (by kernel_rfl) ?_
     refine EL.quick 1 [0, 8, 9, 10] [(0, .slice A7 l6.length C8), (8, .slice (some ⟨a2, 0, none⟩) a1.length 1), (9, .slice d6 d0.length d8), (10, .int .i64 0)] (by kernel_rfl) ?_
     refine EL.done (by kernel_rfl) ?_
     refine EQ.code ?_
     refine EW.block (x := Cd7.r.r.r.r.r.r.r.l.r.l) (id := 0) (by kernel_rfl) ?_
     refine EW.loop (x := Cd7.r.r.r.r.r.r.r.l.r.l.l) (fun n a w => ∃ a7 : List S32, ∃ a6 : Int, ∃ b3 : Option Addr, ∃ b4 : Nat, Sat 108 [(0, .slice A7 l6.length C8), (8, .slice (some ⟨a2, 0, none⟩) a1.length 1), (9, .slice b3 a7.length b4), (10, .int .i64 a6)] a ∧ St B w (Ass.own 32 kS32 (some ⟨b7, 0, none⟩) 1 b6 :: Ass.own 32 kS32 b3 b4 a7 :: Ass.own 32 kS32 (some ⟨a2, 0, none⟩) 1 a1 :: os) (Ro.sl kS51 A7 C8 l6 :: rs) ∧ confidantlaw8_VerifyEnds.l0 K l6 d3 n a7 a6 = some c9) K (by kernel_rfl) ?_ (fun n a w hI => ?_)
     ·refine EQ.keep [0, 8, 9, 10] [(0, .slice A7 l6.length C8), (8, .slice (some ⟨a2, 0, none⟩) a1.length 1), (9, .slice d6 d0.length d8), (10, .int .i64 0)] (by kernel_rfl) ?_
      exact fun a ha => ⟨d0, 0, d6, d8, ha, (hS.re [2, 2, 2] [] rfl (sub_cons 0 rfl (sub_tail (sub_self)))), H⟩
     ·obtain ⟨a7, a6, b3, b4, ha, hS, H⟩ := hI
      obtain _ | n := n
      ·simp [confidantlaw8_VerifyEnds.l0] at H
      rw [confidantlaw8_VerifyEnds.l0.eq_2] at H
      refine EW.at ?_ a ha
      clear ha a
      refine EW.seq (x := Cd7.r.r.r.r.r.r.r.l.r.l.l.l) (y := Cd7.r.r.r.r.r.r.r.l.r.l.l.r) (by kernel_rfl) ?_
      refine EW.seq (x := Cd7.r.r.r.r.r.r.r.l.r.l.l.l.l) (y := Cd7.r.r.r.r.r.r.r.l.r.l.l.l.r) (by kernel_rfl) ?_
      refine EW.region (id := 11) (ops := Cd7.r.r.r.r.r.r.r.l.r.l.l.l.l.ops) (by kernel_rfl) ?_
      refine EL.quick 4 [0, 8, 9, 10, 35] [(0, .slice A7 l6.length C8), (8, .slice (some ⟨a2, 0, none⟩) a1.length 1), (9, .slice b3 a7.length b4), (10, .int .i64 a6), (35, .bool (decide (a6 < (l6.length : Int))))] (by kernel_rfl) ?_
      refine EL.done (by kernel_rfl) ?_
      refine EQ.code ?_
      refine EW.condP (o := (.tmp 35)) (x := Cd7.r.r.r.r.r.r.r.l.r.l.l.l.r.l) (y := Cd7.r.r.r.r.r.r.r.l.r.l.l.l.r.r) (a6 < (l6.length : Int)) (by kernel_rfl) (by kernel_rfl) (fun c7 => ?_) (fun c7 => ?_)
      ·rw [if_pos c7] at H
       refine EW.skip (by kernel_rfl) ?_
       refine EQ.code ?_
       refine EW.seq (x := Cd7.r.r.r.r.r.r.r.l.r.l.l.r.l) (y := Cd7.r.r.r.r.r.r.r.l.r.l.l.r.r) (by kernel_rfl) ?_
       refine EW.block (x := Cd7.r.r.r.r.r.r.r.l.r.l.l.r.l.l) (id := 1) (by kernel_rfl) ?_
       refine EW.seq (x := Cd7.r.r.r.r.r.r.r.l.r.l.l.r.l.l.l) (y := Cd7.r.r.r.r.r.r.r.l.r.l.l.r.l.l.r) (by kernel_rfl) ?_
       obtain ⟨d2, H⟩ := ite_in H
       obtain ⟨b5, rfl⟩ := St.rd_some hS (Rd.ro 0 rfl) d2 c7
       obtain ⟨b9, c8, g9, H⟩ := b2_out H
       refine EW.meet (id := 13) (ops := Cd7.r.r.r.r.r.r.r.l.r.l.l.r.l.l.l.ops) (fun a w => ∃ c2 : Nat, Sat 108 [(0, .slice (some b5) l6.length C8), (8, .slice (some ⟨a2, 0, none⟩) a1.length 1), (9, .slice b3 a7.length b4), (10, .int .i64 a6), (11, .pointer (some ⟨c2, 0, none⟩))] a ∧ St B w (Ass.box 32 c2 [.int .i64 b9, .int .i32 c8] :: Ass.own 32 kS32 (some ⟨b7, 0, none⟩) 1 b6 :: Ass.own 32 kS32 b3 b4 a7 :: Ass.own 32 kS32 (some ⟨a2, 0, none⟩) 1 a1 :: os) (Ro.sl kS51 (some b5) C8 l6 :: rs)) (by kernel_rfl) ?_ (fun a w hI => ?_)
       ·have hS := hS.drew
        refine EW.draw (B := B) (id := 13) (ops := Cd7.r.r.r.r.r.r.r.l.r.l.l.r.l.l.l.ops) [Ass.own 32 kS32 (some ⟨b7, 0, none⟩) 1 b6, Ass.own 32 kS32 b3 b4 a7, Ass.own 32 kS32 (some ⟨a2, 0, none⟩) 1 a1] [Ro.sl kS51 (some b5) C8 l6] (by kernel_rfl) (by kernel_rfl) ?_
        have hN : Region.noSelect Cd7.r.r.r.r.r.r.r.l.r.l.l.r.l.l.l.ops = true := (by kernel_rfl)
        have hF : freeAll Cd7.r.r.r.r.r.r.r.l.r.l.l.r.l.l.l.ops = true := (by kernel_rfl)
        have hC : Core B [Ass.own 32 kS32 (some ⟨b7, 0, none⟩) 1 b6, Ass.own 32 kS32 b3 b4 a7, Ass.own 32 kS32 (some ⟨a2, 0, none⟩) 1 a1] [Ro.sl kS51 (some b5) C8 l6] _ := ⟨_, _, hS⟩
        refine ED.quick hN hF hC [0, 1, 5, 6] [0, 8, 9, 10, 38, 39, 43, 44] 9 [(0, .slice (some b5) l6.length C8), (8, .slice (some ⟨a2, 0, none⟩) a1.length 1), (9, .slice b3 a7.length b4), (10, .int .i64 a6), (38, .slice (some b5) l6.length C8), (39, .int .i64 a6), (43, .slice (some b5) l6.length C8), (44, .int .i64 a6)] #[true, true, false, false, false, true, true, false, false, false, false, false, false] (by kernel_rfl) (by kernel_rfl) ?_
        refine ED.Y hN hF hC 2 8 #[true, true, true, false, false, true, true, false, false, false, false, false, false] (by kernel_rfl) (by kernel_rfl) rfl (fun _ _ _ hS => YO.idx 24 2 b5 l6.length C8 .i64 a6 40 (by kernel_rfl) (by kernel_rfl) (by kernel_rfl) (by kernel_rfl) d2 c7) ?_
        refine ED.Y hN hF hC 3 7 #[true, true, true, true, false, true, true, false, false, false, false, false, false] (by kernel_rfl) (by kernel_rfl) rfl (fun _ _ _ hS => YO.idxEp hS (Rd.ro 0 rfl) a6 d2 c7 51 2 0 2 1 0 .i64 41 (by kernel_rfl) (by kernel_rfl) (by kernel_rfl) (by kernel_rfl) (by kernel_rfl)) ?_
        refine ED.Y hN hF hC 4 6 #[true, true, true, true, true, true, true, false, false, false, false, false, false] (by kernel_rfl) (by kernel_rfl) rfl (fun _ _ _ hS => YO.loadEl hS kS51 b5 C8 l6 (Rd.ro 0 rfl) zS51 encS51 encS51_of a6 d2 c7 5 2 0 1 rfl (.int .u8 ((l6.getD a6.toNat zS51).f0)) 42 (by kernel_rfl) (by kernel_rfl) (by kernel_rfl) (by kernel_rfl)) ?_
        refine ED.Y hN hF hC 7 5 #[true, true, true, true, true, true, true, true, false, false, false, false, false] (by kernel_rfl) (by kernel_rfl) rfl (fun _ _ _ hS => YO.idx 24 2 b5 l6.length C8 .i64 a6 45 (by kernel_rfl) (by kernel_rfl) (by kernel_rfl) (by kernel_rfl) d2 c7) ?_
        refine ED.Y hN hF hC 8 4 #[true, true, true, true, true, true, true, true, true, false, false, false, false] (by kernel_rfl) (by kernel_rfl) rfl (fun _ _ _ hS => YO.idxEp hS (Rd.ro 0 rfl) a6 d2 c7 51 2 0 2 1 1 .i64 46 (by kernel_rfl) (by kernel_rfl) (by kernel_rfl) (by kernel_rfl) (by kernel_rfl)) ?_
        refine ED.Y hN hF hC 9 3 #[true, true, true, true, true, true, true, true, true, true, false, false, false] (by kernel_rfl) (by kernel_rfl) rfl (fun _ _ _ hS => YO.loadEl hS kS51 b5 C8 l6 (Rd.ro 0 rfl) zS51 encS51 encS51_of a6 d2 c7 5 2 1 1 rfl (.int .u8 ((l6.getD a6.toNat zS51).f1)) 47 (by kernel_rfl) (by kernel_rfl) (by kernel_rfl) (by kernel_rfl)) ?_
        refine ED.two 10 11 2 (by kernel_rfl) (by kernel_rfl) ?_ ?_
        ·refine EO.callD 23 [.int .u8 ((l6.getD a6.toNat zS51).f0), .int .u8 ((l6.getD a6.toNat zS51).f1)] _ 48 (by kernel_rfl) (by kernel_rfl) (by kernel_rfl) (confidantseat_Instr.calls g9 hS) ?_
         rintro v w ⟨rfl, hS⟩
         have hC : Core B [Ass.own 32 kS32 (some ⟨b7, 0, none⟩) 1 b6, Ass.own 32 kS32 b3 b4 a7, Ass.own 32 kS32 (some ⟨a2, 0, none⟩) 1 a1] [Ro.sl kS51 (some b5) C8 l6] _ := ⟨_, _, hS⟩
         refine ⟨hC, ?_⟩
         refine ED.at' #[true, true, true, true, true, true, true, true, true, true, true, false, false] (by kernel_rfl) ?_
         refine ED.one 11 1 #[true, true, true, true, true, true, true, true, true, true, true, true, false] (by kernel_rfl) (by kernel_rfl) (by kernel_rfl) (EO.alloc hS 32 (.agg #[.int .i64 0, .int .i32 0]) [.int .i64 0, .int .i32 0] 11 (by kernel_rfl) (by kernel_rfl) (by kernel_rfl) (by kernel_rfl) (by first | rfl | kernel_rfl) ?_)
         intro f7 w hS
         have hC : Core B [Ass.own 32 kS32 (some ⟨b7, 0, none⟩) 1 b6, Ass.own 32 kS32 b3 b4 a7, Ass.own 32 kS32 (some ⟨a2, 0, none⟩) 1 a1] [Ro.sl kS51 (some b5) C8 l6] _ := ⟨_, _, hS.re [3, 3, 3] [] rfl sub_self⟩
         refine ⟨hC, ?_⟩
         refine ED.one 12 0 #[true, true, true, true, true, true, true, true, true, true, true, true, true] (by kernel_rfl) (by kernel_rfl) (by kernel_rfl) (EO.storeBox (os' := Ass.box 32 f7 [.int .i64 b9, .int .i32 c8] :: Ass.own 32 kS32 (some ⟨b7, 0, none⟩) 1 b6 :: Ass.own 32 kS32 b3 b4 a7 :: Ass.own 32 kS32 (some ⟨a2, 0, none⟩) 1 a1 :: os) hS 0 rfl 32 0 (.agg #[.int .i64 b9, .int .i32 c8]) [.int .i64 b9, .int .i32 c8] (by kernel_rfl) (by kernel_rfl) (by kernel_rfl) (by kernel_rfl) (by kernel_rfl) (by kernel_rfl) rfl rfl ?_)
         intro w hS
         have hC : Core B [Ass.own 32 kS32 (some ⟨b7, 0, none⟩) 1 b6, Ass.own 32 kS32 b3 b4 a7, Ass.own 32 kS32 (some ⟨a2, 0, none⟩) 1 a1] [Ro.sl kS51 (some b5) C8 l6] _ := ⟨_, _, hS.re [3, 3, 3] [] rfl sub_self⟩
         refine ⟨hC, ?_⟩
         refine ED.done (by kernel_rfl) ?_
         refine EQ.to ?_
         refine EQ.keep [0, 8, 9, 10, 11] [(0, .slice (some b5) l6.length C8), (8, .slice (some ⟨a2, 0, none⟩) a1.length 1), (9, .slice b3 a7.length b4), (10, .int .i64 a6), (11, .pointer (some ⟨f7, 0, none⟩))] (by kernel_rfl) ?_
         exact fun a ha => ⟨f7, ha, (hS.re [3, 3, 3, 3] [] rfl (sub_cons 0 rfl (sub_tail (sub_self))))⟩
        ·refine EO.alloc hS 32 (.agg #[.int .i64 0, .int .i32 0]) [.int .i64 0, .int .i32 0] 11 (by kernel_rfl) (by kernel_rfl) (by kernel_rfl) (by kernel_rfl) (by first | rfl | kernel_rfl) ?_
         intro f8 w hS
         have hC : Core B [Ass.own 32 kS32 (some ⟨b7, 0, none⟩) 1 b6, Ass.own 32 kS32 b3 b4 a7, Ass.own 32 kS32 (some ⟨a2, 0, none⟩) 1 a1] [Ro.sl kS51 (some b5) C8 l6] _ := ⟨_, _, hS.re [3, 3, 3] [] rfl sub_self⟩
         refine ⟨hC, ?_⟩
         refine ED.at' #[true, true, true, true, true, true, true, true, true, true, false, true, false] (by kernel_rfl) ?_
         refine ED.one 10 1 #[true, true, true, true, true, true, true, true, true, true, true, true, false] (by kernel_rfl) (by kernel_rfl) (by kernel_rfl) (EO.callD 23 [.int .u8 ((l6.getD a6.toNat zS51).f0), .int .u8 ((l6.getD a6.toNat zS51).f1)] _ 48 (by kernel_rfl) (by kernel_rfl) (by kernel_rfl) (confidantseat_Instr.calls g9 hS) ?_)
         rintro v w ⟨rfl, hS⟩
         have hC : Core B [Ass.own 32 kS32 (some ⟨b7, 0, none⟩) 1 b6, Ass.own 32 kS32 b3 b4 a7, Ass.own 32 kS32 (some ⟨a2, 0, none⟩) 1 a1] [Ro.sl kS51 (some b5) C8 l6] _ := ⟨_, _, hS.re [3, 3, 3] [] rfl sub_self⟩
         refine ⟨hC, ?_⟩
         refine ED.one 12 0 #[true, true, true, true, true, true, true, true, true, true, true, true, true] (by kernel_rfl) (by kernel_rfl) (by kernel_rfl) (EO.storeBox (os' := Ass.box 32 f8 [.int .i64 b9, .int .i32 c8] :: Ass.own 32 kS32 (some ⟨b7, 0, none⟩) 1 b6 :: Ass.own 32 kS32 b3 b4 a7 :: Ass.own 32 kS32 (some ⟨a2, 0, none⟩) 1 a1 :: os) hS 0 rfl 32 0 (.agg #[.int .i64 b9, .int .i32 c8]) [.int .i64 b9, .int .i32 c8] (by kernel_rfl) (by kernel_rfl) (by kernel_rfl) (by kernel_rfl) (by kernel_rfl) (by kernel_rfl) rfl rfl ?_)
         intro w hS
         have hC : Core B [Ass.own 32 kS32 (some ⟨b7, 0, none⟩) 1 b6, Ass.own 32 kS32 b3 b4 a7, Ass.own 32 kS32 (some ⟨a2, 0, none⟩) 1 a1] [Ro.sl kS51 (some b5) C8 l6] _ := ⟨_, _, hS.re [3, 3, 3] [] rfl sub_self⟩
         refine ⟨hC, ?_⟩
         refine ED.done (by kernel_rfl) ?_
         refine EQ.to ?_
         refine EQ.keep [0, 8, 9, 10, 11] [(0, .slice (some b5) l6.length C8), (8, .slice (some ⟨a2, 0, none⟩) a1.length 1), (9, .slice b3 a7.length b4), (10, .int .i64 a6), (11, .pointer (some ⟨f8, 0, none⟩))] (by kernel_rfl) ?_
         exact fun a ha => ⟨f8, ha, (hS.re [3, 3, 3, 3] [] rfl (sub_cons 0 rfl (sub_tail (sub_self))))⟩
       ·obtain ⟨c2, ha, hS⟩ := hI
        refine EQ.at ?_ a ha
        clear ha a
        refine EQ.code ?_
        obtain ⟨f5, j3, H⟩ := lt_out H
        refine EW.cut (x := Cd7.r.r.r.r.r.r.r.l.r.l.l.r.l.l.r.l) (y := Cd7.r.r.r.r.r.r.r.l.r.l.l.r.l.l.r.r) (fun a w => ∃ c3 : Int, Sat 108 [(0, .slice (some b5) l6.length C8), (8, .slice (some ⟨a2, 0, none⟩) a1.length 1), (9, .slice b3 a7.length b4), (10, .int .i64 a6), (11, .pointer (some ⟨c2, 0, none⟩))] a ∧ St B w (Ass.box 32 c2 [.int .i64 b9, .int .i32 c3] :: Ass.own 32 kS32 (some ⟨b7, 0, none⟩) 1 b6 :: Ass.own 32 kS32 b3 b4 a7 :: Ass.own 32 kS32 (some ⟨a2, 0, none⟩) 1 a1 :: os) (Ro.sl kS51 (some b5) C8 l6 :: rs) ∧ f5 c3 = some c9) (by kernel_rfl) ?_ (fun a w hI => ?_)
        ·refine EW.seq (x := Cd7.r.r.r.r.r.r.r.l.r.l.l.r.l.l.r.l.l) (y := Cd7.r.r.r.r.r.r.r.l.r.l.l.r.l.l.r.l.r) (by kernel_rfl) ?_
         refine EW.region (id := 14) (ops := Cd7.r.r.r.r.r.r.r.l.r.l.l.r.l.l.r.l.l.ops) (by kernel_rfl) ?_
         refine EL.quick 1 [0, 8, 9, 10, 11, 49] [(0, .slice (some b5) l6.length C8), (8, .slice (some ⟨a2, 0, none⟩) a1.length 1), (9, .slice b3 a7.length b4), (10, .int .i64 a6), (11, .pointer (some ⟨c2, 0, none⟩)), (49, .pointer (some ⟨c2, 0, none⟩))] (by kernel_rfl) ?_
         refine EL.of (EO.Y (YO.loadBox hS 0 rfl 3 0 1 (.int .i64 b9) 50 (by kernel_rfl) (by kernel_rfl) (by kernel_rfl) (by kernel_rfl)) ?_)
         obtain ⟨f6, i7, H⟩ := b1_out H
         refine EL.of (EO.callD 24 [.int .i64 b9] _ 51 (by kernel_rfl) (by kernel_rfl) (by kernel_rfl) (confidantref5_Arg.calls i7 hS) ?_)
         rintro v w ⟨rfl, hS⟩
         refine EL.quick 1 [0, 8, 9, 10, 11, 52] [(0, .slice (some b5) l6.length C8), (8, .slice (some ⟨a2, 0, none⟩) a1.length 1), (9, .slice b3 a7.length b4), (10, .int .i64 a6), (11, .pointer (some ⟨c2, 0, none⟩)), (52, .bool (decide (f6 > 1)))] (by kernel_rfl) ?_
         refine EL.done (by kernel_rfl) ?_
         refine EQ.code ?_
         refine EW.condP (o := (.tmp 52)) (x := Cd7.r.r.r.r.r.r.r.l.r.l.l.r.l.l.r.l.r.l) (y := Cd7.r.r.r.r.r.r.r.l.r.l.l.r.l.l.r.l.r.r) (f6 > 1) (by kernel_rfl) (by kernel_rfl) (fun g2 => ?_) (fun g2 => ?_)
         ·rw [if_pos g2] at H
          refine EW.region (id := 15) (ops := Cd7.r.r.r.r.r.r.r.l.r.l.l.r.l.l.r.l.r.l.ops) (by kernel_rfl) ?_
          refine EL.quick 1 [0, 8, 9, 10, 11, 53] [(0, .slice (some b5) l6.length C8), (8, .slice (some ⟨a2, 0, none⟩) a1.length 1), (9, .slice b3 a7.length b4), (10, .int .i64 a6), (11, .pointer (some ⟨c2, 0, none⟩)), (53, .pointer (some ⟨c2, 1, none⟩))] (by kernel_rfl) ?_
          refine EL.of (EO.storeBox (os' := Ass.box 32 c2 [.int .i64 b9, .int .i32 0] :: Ass.own 32 kS32 (some ⟨b7, 0, none⟩) 1 b6 :: Ass.own 32 kS32 b3 b4 a7 :: Ass.own 32 kS32 (some ⟨a2, 0, none⟩) 1 a1 :: os) hS 0 rfl 21 1 (.int .i32 0) [.int .i64 b9, .int .i32 0] (by kernel_rfl) (by kernel_rfl) (by kernel_rfl) (by kernel_rfl) (by kernel_rfl) (by kernel_rfl) rfl rfl ?_)
          intro w hS
          refine EL.done (by kernel_rfl) ?_
          refine EQ.to ?_
          refine EQ.keep [0, 8, 9, 10, 11] [(0, .slice (some b5) l6.length C8), (8, .slice (some ⟨a2, 0, none⟩) a1.length 1), (9, .slice b3 a7.length b4), (10, .int .i64 a6), (11, .pointer (some ⟨c2, 0, none⟩))] (by kernel_rfl) ?_
          exact fun a ha => ⟨0, ha, (hS.re [3, 3, 3, 3] [] rfl (sub_cons 0 rfl (sub_tail (sub_self)))), H⟩
         ·rw [if_neg g2] at H
          refine EW.skip (by kernel_rfl) ?_
          refine EQ.to ?_
          refine EQ.keep [0, 8, 9, 10, 11] [(0, .slice (some b5) l6.length C8), (8, .slice (some ⟨a2, 0, none⟩) a1.length 1), (9, .slice b3 a7.length b4), (10, .int .i64 a6), (11, .pointer (some ⟨c2, 0, none⟩))] (by kernel_rfl) ?_
          exact fun a ha => ⟨c8, ha, (hS.re [3, 3, 3, 3] [] rfl (sub_cons 0 rfl (sub_tail (sub_self)))), H⟩
        ·obtain ⟨c3, ha, hS, H⟩ := hI
         rw [j3] at H
         (try dsimp only at H)
         refine EW.at ?_ a ha
         clear ha a
         refine EW.region (id := 16) (ops := Cd7.r.r.r.r.r.r.r.l.r.l.l.r.l.l.r.r.ops) (by kernel_rfl) ?_
         refine EL.quick 1 [0, 8, 10, 11, 54] [(0, .slice (some b5) l6.length C8), (8, .slice (some ⟨a2, 0, none⟩) a1.length 1), (10, .int .i64 a6), (11, .pointer (some ⟨c2, 0, none⟩)), (54, .slice b3 a7.length b4)] (by kernel_rfl) ?_
         refine EL.of (EO.Y (YO.loadBox hS 0 rfl 32 0 2 (.agg #[.int .i64 b9, .int .i32 c3]) 55 (by kernel_rfl) (by kernel_rfl) (by kernel_rfl) (by kernel_rfl)) ?_)
         obtain ⟨e2, i2, H⟩ := lt_out H
         refine EL.of (EO.lit hS kS32 32 29 1 #[(0, .agg #[.int .i64 b9, .int .i32 c3])] [.int .i64 b9, .int .i32 c3] e2 56 (by kernel_rfl) (by kernel_rfl) (by kernel_rfl) (fun _ => (by kernel_rfl)) (by rw [i2]; rfl) (by kernel_rfl) (fun w G hr => (by rw [i2]; exact ⟨[.int .i64 b9, .int .i32 c3], [], rfl, ⟨[.int .i64 b9], [.int .i32 c3], rfl, rfl, ⟨[.int .i32 c3], [], rfl, rfl, rfl⟩⟩, rfl⟩)) ?_)
         intro g7 w hS
         obtain ⟨i5, H⟩ := ite_in H
         obtain ⟨d1, j8, H⟩ := lt_out H
         refine EL.of (EO.append hS 29 29 32 16 3 kS32 b3 b4 a7 rfl (some ⟨g7, 0, none⟩) 1 e2 (Rd.own 0 32 rfl) d1 j8 (fun d7 d9 => Ass.own 32 kS32 (some ⟨g7, 0, none⟩) 1 e2 :: Ass.box 32 c2 [.int .i64 b9, .int .i32 c3] :: Ass.own 32 kS32 (some ⟨b7, 0, none⟩) 1 b6 :: Ass.own 32 kS32 d7 d9 d1 :: Ass.own 32 kS32 (some ⟨a2, 0, none⟩) 1 a1 :: os) 57 (by kernel_rfl) (by kernel_rfl) (by kernel_rfl) (by kernel_rfl) i5 (fun _ _ => rfl) ?_)
         intro d7 d9 w hS
         refine EL.quick 1 [0, 8, 9, 10] [(0, .slice (some b5) l6.length C8), (8, .slice (some ⟨a2, 0, none⟩) a1.length 1), (9, .slice d7 d1.length d9), (10, .int .i64 a6)] (by kernel_rfl) ?_
         refine EL.done (by kernel_rfl) ?_
         refine EQ.pop ?_
         refine EQ.code ?_
         refine EW.region (id := 12) (ops := Cd7.r.r.r.r.r.r.r.l.r.l.l.r.r.ops) (by kernel_rfl) ?_
         refine EL.quick 3 [0, 8, 9, 10] [(0, .slice (some b5) l6.length C8), (8, .slice (some ⟨a2, 0, none⟩) a1.length 1), (9, .slice d7 d1.length d9), (10, .int .i64 (IntKind.i64.wrap (a6 + 1)))] (by kernel_rfl) ?_
         refine EL.done (by kernel_rfl) ?_
         refine EQ.to ?_
         refine EQ.keep [0, 8, 9, 10] [(0, .slice (some b5) l6.length C8), (8, .slice (some ⟨a2, 0, none⟩) a1.length 1), (9, .slice d7 d1.length d9), (10, .int .i64 (IntKind.i64.wrap (a6 + 1)))] (by kernel_rfl) ?_
         exact fun a ha => ⟨n, Nat.lt_succ_self n, d1, IntKind.i64.wrap (a6 + 1), d7, d9, ha, (hS.re [4, 4, 4] [3, 3] rfl (sub_cons 0 rfl (sub_tail (sub_self)))), H⟩
      ·rw [if_neg c7] at H
       refine EW.exit (id := 0) (by kernel_rfl) ?_
       refine EQ.exitCode ?_
       refine EQ.exitTo ?_
       refine EQ.exitHere ?_
       refine EQ.to ?_
       refine EQ.keep [8, 9] [(8, .slice (some ⟨a2, 0, none⟩) a1.length 1), (9, .slice b3 a7.length b4)] (by kernel_rfl) ?_
       exact fun a ha => ⟨a7, b3, b4, ha, (hS.re [2, 2, 2] [] rfl (sub_cons 0 rfl (sub_tail (sub_self)))), H⟩
    ·obtain ⟨a4, a8, b0, ha, hS, H⟩ := hI
     rw [j2] at H
     (try dsimp only at H)
     refine EW.at ?_ a ha
     clear ha a
     refine EW.seq (x := Cd7.r.r.r.r.r.r.r.r.l) (y := Cd7.r.r.r.r.r.r.r.r.r) (by kernel_rfl) ?_
     refine EW.region (id := 17) (ops := Cd7.r.r.r.r.r.r.r.r.l.ops) (by kernel_rfl) ?_
     refine EL.quick 1 [8, 9, 59] [(8, .slice (some ⟨a2, 0, none⟩) a1.length 1), (9, .slice a8 a4.length b0), (59, .slice a8 a4.length b0)] (by kernel_rfl) ?_
     have hS := St.fr hS 1 rfl
     have hS : St B _ (Ass.own 32 kS32 (some ⟨b7, 0, none⟩) 1 b6 :: Ass.own 32 kS32 (some ⟨a2, 0, none⟩) 1 a1 :: os) (Ro.sl kS32 a8 b0 a4 :: Ro.sl kS32 a8 b0 a4 :: Ro.sl kS51 A7 C8 l6 :: rs) := hS.re [] [] rfl (sub_cons 0 rfl sub_self)
     obtain ⟨j9, c4, i8, H⟩ := b2_out H
     refine EL.of (EO.callD 16 [.slice a8 a4.length b0, .int .i64 1, .int .i64 1, .int .i64 1] _ 60 (by kernel_rfl) (by kernel_rfl) (by kernel_rfl) (verify_Func.calls i8 hS) ?_)
     rintro v w ⟨rfl, hS⟩
     refine EL.quick 5 [8, 9, 13] [(8, .slice (some ⟨a2, 0, none⟩) a1.length 1), (9, .slice a8 a4.length b0), (13, .int .i64 c4)] (by kernel_rfl) ?_
     refine EL.done (by kernel_rfl) ?_
     refine EQ.code ?_
     refine EW.seq (x := Cd7.r.r.r.r.r.r.r.r.r.l) (y := Cd7.r.r.r.r.r.r.r.r.r.r) (by kernel_rfl) ?_
     refine EW.region (id := 18) (ops := Cd7.r.r.r.r.r.r.r.r.r.l.ops) (by kernel_rfl) ?_
     refine EL.quick 1 [8, 9, 13, 63] [(8, .slice (some ⟨a2, 0, none⟩) a1.length 1), (9, .slice a8 a4.length b0), (13, .int .i64 c4), (63, .slice a8 a4.length b0)] (by kernel_rfl) ?_
     have hS : St B _ (Ass.own 32 kS32 (some ⟨b7, 0, none⟩) 1 b6 :: Ass.own 32 kS32 (some ⟨a2, 0, none⟩) 1 a1 :: os) (Ro.sl kS32 a8 b0 a4 :: Ro.sl kS32 a8 b0 a4 :: Ro.sl kS32 a8 b0 a4 :: Ro.sl kS51 A7 C8 l6 :: rs) := hS.re [] [] rfl (sub_cons 0 rfl sub_self)
     obtain ⟨a0, i9, H⟩ := b1_out H
     refine EL.of (EO.callD 19 [.slice a8 a4.length b0] _ 64 (by kernel_rfl) (by kernel_rfl) (by kernel_rfl) (verify_Depths.calls i9 hS) ?_)
     rintro v w ⟨a5, a3, rfl, hS⟩
     refine EL.quick 1 [8, 9, 13, 14] [(8, .slice (some ⟨a2, 0, none⟩) a1.length 1), (9, .slice a8 a4.length b0), (13, .int .i64 c4), (14, .slice a5 a0.length a3)] (by kernel_rfl) ?_
     refine EL.done (by kernel_rfl) ?_
     refine EQ.code ?_
     refine EW.seq (x := Cd7.r.r.r.r.r.r.r.r.r.r.l) (y := Cd7.r.r.r.r.r.r.r.r.r.r.r) (by kernel_rfl) ?_
     refine EW.region (id := 19) (ops := Cd7.r.r.r.r.r.r.r.r.r.r.l.ops) (by kernel_rfl) ?_
     refine EL.quick 1 [9, 13, 14, 66] [(9, .slice a8 a4.length b0), (13, .int .i64 c4), (14, .slice a5 a0.length a3), (66, .slice (some ⟨a2, 0, none⟩) a1.length 1)] (by kernel_rfl) ?_
     have hS := St.fr hS 2 rfl
     have hS : St B _ (Ass.own 3 (Kd.int .i64) a5 a3 a0 :: Ass.own 32 kS32 (some ⟨b7, 0, none⟩) 1 b6 :: os) (Ro.sl kS32 (some ⟨a2, 0, none⟩) 1 a1 :: Ro.sl kS32 (some ⟨a2, 0, none⟩) 1 a1 :: Ro.sl kS32 a8 b0 a4 :: Ro.sl kS32 a8 b0 a4 :: Ro.sl kS32 a8 b0 a4 :: Ro.sl kS51 A7 C8 l6 :: rs) := hS.re [] [] rfl (sub_cons 0 rfl sub_self)
     obtain ⟨c1, c0, j0, H⟩ := b2_out H
     refine EL.of (EO.callD 16 [.slice (some ⟨a2, 0, none⟩) a1.length 1, .int .i64 1, .int .i64 1, .int .i64 1] _ 67 (by kernel_rfl) (by kernel_rfl) (by kernel_rfl) (verify_Func.calls j0 hS) ?_)
     rintro v w ⟨rfl, hS⟩
     refine EL.quick 5 [9, 13, 14, 15, 16] [(9, .slice a8 a4.length b0), (13, .int .i64 c4), (14, .slice a5 a0.length a3), (15, .int .i64 c1), (16, .int .i64 c0)] (by kernel_rfl) ?_
     refine EL.done (by kernel_rfl) ?_
     refine EQ.code ?_
     refine EW.seq (x := Cd7.r.r.r.r.r.r.r.r.r.r.r.l) (y := Cd7.r.r.r.r.r.r.r.r.r.r.r.r) (by kernel_rfl) ?_
     obtain ⟨e1, j4, H⟩ := lt_out H
     refine EW.cut (x := Cd7.r.r.r.r.r.r.r.r.r.r.r.l.l) (y := Cd7.r.r.r.r.r.r.r.r.r.r.r.l.r) (fun a w => ∃ e3 : Bool, Sat 108 [(14, .slice a5 a0.length a3), (86, .bool (e3))] a ∧ St B w (Ass.own 3 (Kd.int .i64) a5 a3 a0 :: Ass.own 32 kS32 (some ⟨b7, 0, none⟩) 1 b6 :: os) (Ro.sl kS32 (some ⟨a2, 0, none⟩) 1 a1 :: Ro.sl kS32 (some ⟨a2, 0, none⟩) 1 a1 :: Ro.sl kS32 a8 b0 a4 :: Ro.sl kS32 a8 b0 a4 :: Ro.sl kS32 a8 b0 a4 :: Ro.sl kS51 A7 C8 l6 :: rs) ∧ e1 e3 = some c9) (by kernel_rfl) ?_ (fun a w hI => ?_)
     ·refine EW.region (id := 20) (ops := Cd7.r.r.r.r.r.r.r.r.r.r.r.l.l.ops) (by kernel_rfl) ?_
      refine EL.quick 3 [9, 14, 15, 16, 72] [(9, .slice a8 a4.length b0), (14, .slice a5 a0.length a3), (15, .int .i64 c1), (16, .int .i64 c0), (72, .bool (!(decide (c4 = 0))))] (by kernel_rfl) ?_
      by_cases e8 : c4 = 0
      ·rw [if_pos e8] at H
       refine EL.keep [9, 14, 15, 16, 72] [(9, .slice a8 a4.length b0), (14, .slice a5 a0.length a3), (15, .int .i64 c1), (16, .int .i64 c0), (72, .bool (!(decide (c4 = 0))))] (by kernel_rfl) ?_
       refine EL.as' [(9, .slice a8 a4.length b0), (14, .slice a5 a0.length a3), (15, .int .i64 c1), (16, .int .i64 c0), (72, .bool (false))] (by simp only [dec_t e8, Bool.not_true, Bool.not_false]) ?_
       refine EL.quick 7 [14, 15, 16, 79] [(14, .slice a5 a0.length a3), (15, .int .i64 c1), (16, .int .i64 c0), (79, .bool (!(decide ((a0.length : Int) = (a4.length : Int)))))] (by kernel_rfl) ?_
       by_cases e9 : (a0.length : Int) = (a4.length : Int)
       ·rw [if_pos e9] at H
        refine EL.keep [14, 15, 16, 79] [(14, .slice a5 a0.length a3), (15, .int .i64 c1), (16, .int .i64 c0), (79, .bool (!(decide ((a0.length : Int) = (a4.length : Int)))))] (by kernel_rfl) ?_
        refine EL.as' [(14, .slice a5 a0.length a3), (15, .int .i64 c1), (16, .int .i64 c0), (79, .bool (false))] (by simp only [dec_t e9, Bool.not_true, Bool.not_false]) ?_
        refine EL.quick 4 [14, 16, 83] [(14, .slice a5 a0.length a3), (16, .int .i64 c0), (83, .bool (!(decide (c1 = 0))))] (by kernel_rfl) ?_
        by_cases f2 : c1 = 0
        ·rw [if_pos f2] at H
         refine EL.keep [14, 16, 83] [(14, .slice a5 a0.length a3), (16, .int .i64 c0), (83, .bool (!(decide (c1 = 0))))] (by kernel_rfl) ?_
         refine EL.as' [(14, .slice a5 a0.length a3), (16, .int .i64 c0), (83, .bool (false))] (by simp only [dec_t f2, Bool.not_true, Bool.not_false]) ?_
         refine EL.quick 3 [14, 86] [(14, .slice a5 a0.length a3), (86, .bool (!(decide (c0 = 24))))] (by kernel_rfl) ?_
         refine EL.done (by kernel_rfl) ?_
         refine EQ.to ?_
         refine EQ.keep [14, 86] [(14, .slice a5 a0.length a3), (86, .bool (!(decide (c0 = 24))))] (by kernel_rfl) ?_
         exact fun a ha => ⟨!(decide (c0 = 24)), ha, (hS.re [1, 1] [] rfl (sub_cons 0 rfl (sub_cons 0 rfl (sub_cons 2 rfl (sub_cons 2 rfl (sub_cons 2 rfl (sub_cons 5 rfl (sub_tail (sub_tail (sub_tail (sub_tail (sub_tail (sub_tail (sub_self)))))))))))))), H⟩
        ·rw [if_neg f2] at H
         refine EL.keep [14, 16, 83] [(14, .slice a5 a0.length a3), (16, .int .i64 c0), (83, .bool (!(decide (c1 = 0))))] (by kernel_rfl) ?_
         refine EL.as' [(14, .slice a5 a0.length a3), (16, .int .i64 c0), (83, .bool (true))] (by simp only [dec_f f2, Bool.not_true, Bool.not_false]) ?_
         refine EL.quick 3 [14, 86] [(14, .slice a5 a0.length a3), (86, .bool (true))] (by kernel_rfl) ?_
         refine EL.done (by kernel_rfl) ?_
         refine EQ.to ?_
         refine EQ.keep [14, 86] [(14, .slice a5 a0.length a3), (86, .bool (true))] (by kernel_rfl) ?_
         exact fun a ha => ⟨true, ha, (hS.re [1, 1] [] rfl (sub_cons 0 rfl (sub_cons 0 rfl (sub_cons 2 rfl (sub_cons 2 rfl (sub_cons 2 rfl (sub_cons 5 rfl (sub_tail (sub_tail (sub_tail (sub_tail (sub_tail (sub_tail (sub_self)))))))))))))), H⟩
       ·rw [if_neg e9] at H
        refine EL.keep [14, 15, 16, 79] [(14, .slice a5 a0.length a3), (15, .int .i64 c1), (16, .int .i64 c0), (79, .bool (!(decide ((a0.length : Int) = (a4.length : Int)))))] (by kernel_rfl) ?_
        refine EL.as' [(14, .slice a5 a0.length a3), (15, .int .i64 c1), (16, .int .i64 c0), (79, .bool (true))] (by simp only [dec_f e9, Bool.not_true, Bool.not_false]) ?_
        refine EL.quick 7 [14, 86] [(14, .slice a5 a0.length a3), (86, .bool (true))] (by kernel_rfl) ?_
        refine EL.done (by kernel_rfl) ?_
        refine EQ.to ?_
        refine EQ.keep [14, 86] [(14, .slice a5 a0.length a3), (86, .bool (true))] (by kernel_rfl) ?_
        exact fun a ha => ⟨true, ha, (hS.re [1, 1] [] rfl (sub_cons 0 rfl (sub_cons 0 rfl (sub_cons 2 rfl (sub_cons 2 rfl (sub_cons 2 rfl (sub_cons 5 rfl (sub_tail (sub_tail (sub_tail (sub_tail (sub_tail (sub_tail (sub_self)))))))))))))), H⟩
      ·rw [if_neg e8] at H
       refine EL.keep [9, 14, 15, 16, 72] [(9, .slice a8 a4.length b0), (14, .slice a5 a0.length a3), (15, .int .i64 c1), (16, .int .i64 c0), (72, .bool (!(decide (c4 = 0))))] (by kernel_rfl) ?_
       refine EL.as' [(9, .slice a8 a4.length b0), (14, .slice a5 a0.length a3), (15, .int .i64 c1), (16, .int .i64 c0), (72, .bool (true))] (by simp only [dec_f e8, Bool.not_true, Bool.not_false]) ?_
       refine EL.quick 14 [14, 86] [(14, .slice a5 a0.length a3), (86, .bool (true))] (by kernel_rfl) ?_
       refine EL.done (by kernel_rfl) ?_
       refine EQ.to ?_
       refine EQ.keep [14, 86] [(14, .slice a5 a0.length a3), (86, .bool (true))] (by kernel_rfl) ?_
       exact fun a ha => ⟨true, ha, (hS.re [1, 1] [] rfl (sub_cons 0 rfl (sub_cons 0 rfl (sub_cons 2 rfl (sub_cons 2 rfl (sub_cons 2 rfl (sub_cons 5 rfl (sub_tail (sub_tail (sub_tail (sub_tail (sub_tail (sub_tail (sub_self)))))))))))))), H⟩
     ·obtain ⟨e3, ha, hS, H⟩ := hI
      rw [j4] at H
      (try dsimp only at H)
      refine EW.at ?_ a ha
      clear ha a
      refine EW.condP' (o := (.tmp 86)) (x := Cd7.r.r.r.r.r.r.r.r.r.r.r.l.r.l) (y := Cd7.r.r.r.r.r.r.r.r.r.r.r.l.r.r) (e3) (by kernel_rfl) (by kernel_rfl) (fun g3 => ?_) (fun g3 => ?_)
      ·rw [if_pos g3] at H
       refine EW.seq (x := Cd7.r.r.r.r.r.r.r.r.r.r.r.l.r.l.l) (y := Cd7.r.r.r.r.r.r.r.r.r.r.r.l.r.l.r) (by kernel_rfl) ?_
       refine EW.region (id := 21) (ops := Cd7.r.r.r.r.r.r.r.r.r.r.r.l.r.l.l.ops) (by kernel_rfl) ?_
       refine EL.quick 1 [6] [(6, .bool (false))] (by kernel_rfl) ?_
       refine EL.done (by kernel_rfl) ?_
       refine EQ.code ?_
       refine EW.ret (by kernel_rfl) ?_
       refine EQ.ret ?_
       obtain rfl := Option.some.inj H
       exact EQ.leave (.bool (false)) (by kernel_rfl) ⟨_, rfl, rfl, (hS.re [] [0, 0] rfl (sub_tail (sub_tail (sub_tail (sub_tail (sub_tail (sub_self)))))))⟩
      ·rw [if_neg g3] at H
       refine EW.skip (by kernel_rfl) ?_
       refine EQ.code ?_
       obtain ⟨d4, j5, H⟩ := lt_out H
       refine EW.cut (x := Cd7.r.r.r.r.r.r.r.r.r.r.r.r.l) (y := Cd7.r.r.r.r.r.r.r.r.r.r.r.r.r) (fun a w => Sat 108 [(14, .slice a5 a0.length a3)] a ∧ St B w (Ass.own 3 (Kd.int .i64) a5 a3 a0 :: Ass.own 32 kS32 (some ⟨b7, 0, none⟩) 1 b6 :: os) (Ro.sl kS32 (some ⟨a2, 0, none⟩) 1 a1 :: Ro.sl kS32 (some ⟨a2, 0, none⟩) 1 a1 :: Ro.sl kS32 a8 b0 a4 :: Ro.sl kS32 a8 b0 a4 :: Ro.sl kS32 a8 b0 a4 :: Ro.sl kS51 A7 C8 l6 :: rs) ∧ d4 = some c9) (by kernel_rfl) ?_ (fun a w hI => ?_)
       ·refine EW.seq (x := Cd7.r.r.r.r.r.r.r.r.r.r.r.r.l.l) (y := Cd7.r.r.r.r.r.r.r.r.r.r.r.r.l.r) (by kernel_rfl) ?_
        refine EW.region (id := 22) (ops := Cd7.r.r.r.r.r.r.r.r.r.r.r.r.l.l.ops) (by kernel_rfl) ?_
        refine EL.quick 1 [14, 17] [(14, .slice a5 a0.length a3), (17, .int .i64 2)] (by kernel_rfl) ?_
        refine EL.done (by kernel_rfl) ?_
        refine EQ.code ?_
        refine EW.block (x := Cd7.r.r.r.r.r.r.r.r.r.r.r.r.l.r.l) (id := 2) (by kernel_rfl) ?_
        refine EW.loop (x := Cd7.r.r.r.r.r.r.r.r.r.r.r.r.l.r.l.l) (fun n a w => ∃ b8 : Int, Sat 108 [(14, .slice a5 a0.length a3), (17, .int .i64 b8)] a ∧ St B w (Ass.own 3 (Kd.int .i64) a5 a3 a0 :: Ass.own 32 kS32 (some ⟨b7, 0, none⟩) 1 b6 :: os) (Ro.sl kS32 (some ⟨a2, 0, none⟩) 1 a1 :: Ro.sl kS32 (some ⟨a2, 0, none⟩) 1 a1 :: Ro.sl kS32 a8 b0 a4 :: Ro.sl kS32 a8 b0 a4 :: Ro.sl kS32 a8 b0 a4 :: Ro.sl kS51 A7 C8 l6 :: rs) ∧ confidantlaw8_VerifyEnds.l1 K a0 d4 n b8 = some c9) K (by kernel_rfl) ?_ (fun n a w hI => ?_)
        ·refine EQ.keep [14, 17] [(14, .slice a5 a0.length a3), (17, .int .i64 2)] (by kernel_rfl) ?_
         exact fun a ha => ⟨2, ha, (hS.re [1, 1] [] rfl (sub_cons 0 rfl (sub_cons 0 rfl (sub_cons 2 rfl (sub_cons 2 rfl (sub_cons 2 rfl (sub_cons 5 rfl (sub_tail (sub_tail (sub_tail (sub_tail (sub_tail (sub_tail (sub_self)))))))))))))), H⟩
        ·obtain ⟨b8, ha, hS, H⟩ := hI
         obtain _ | n := n
         ·simp [confidantlaw8_VerifyEnds.l1] at H
         rw [confidantlaw8_VerifyEnds.l1.eq_2] at H
         refine EW.at ?_ a ha
         clear ha a
         refine EW.seq (x := Cd7.r.r.r.r.r.r.r.r.r.r.r.r.l.r.l.l.l) (y := Cd7.r.r.r.r.r.r.r.r.r.r.r.r.l.r.l.l.r) (by kernel_rfl) ?_
         refine EW.seq (x := Cd7.r.r.r.r.r.r.r.r.r.r.r.r.l.r.l.l.l.l) (y := Cd7.r.r.r.r.r.r.r.r.r.r.r.r.l.r.l.l.l.r) (by kernel_rfl) ?_
         refine EW.region (id := 23) (ops := Cd7.r.r.r.r.r.r.r.r.r.r.r.r.l.r.l.l.l.l.ops) (by kernel_rfl) ?_
         refine EL.quick 4 [14, 17, 90] [(14, .slice a5 a0.length a3), (17, .int .i64 b8), (90, .bool (decide (b8 < (a0.length : Int))))] (by kernel_rfl) ?_
         refine EL.done (by kernel_rfl) ?_
         refine EQ.code ?_
         refine EW.condP (o := (.tmp 90)) (x := Cd7.r.r.r.r.r.r.r.r.r.r.r.r.l.r.l.l.l.r.l) (y := Cd7.r.r.r.r.r.r.r.r.r.r.r.r.l.r.l.l.l.r.r) (b8 < (a0.length : Int)) (by kernel_rfl) (by kernel_rfl) (fun e0 => ?_) (fun e0 => ?_)
         ·rw [if_pos e0] at H
          refine EW.skip (by kernel_rfl) ?_
          refine EQ.code ?_
          refine EW.seq (x := Cd7.r.r.r.r.r.r.r.r.r.r.r.r.l.r.l.l.r.l) (y := Cd7.r.r.r.r.r.r.r.r.r.r.r.r.l.r.l.l.r.r) (by kernel_rfl) ?_
          refine EW.block (x := Cd7.r.r.r.r.r.r.r.r.r.r.r.r.l.r.l.l.r.l.l) (id := 3) (by kernel_rfl) ?_
          refine EW.seq (x := Cd7.r.r.r.r.r.r.r.r.r.r.r.r.l.r.l.l.r.l.l.l) (y := Cd7.r.r.r.r.r.r.r.r.r.r.r.r.l.r.l.l.r.l.l.r) (by kernel_rfl) ?_
          refine EW.region (id := 25) (ops := Cd7.r.r.r.r.r.r.r.r.r.r.r.r.l.r.l.l.r.l.l.l.ops) (by kernel_rfl) ?_
          refine EL.quick 2 [14, 17, 93, 94] [(14, .slice a5 a0.length a3), (17, .int .i64 b8), (93, .slice a5 a0.length a3), (94, .int .i64 b8)] (by kernel_rfl) ?_
          obtain ⟨g4, H⟩ := ite_in H
          obtain ⟨e4, rfl⟩ := St.rd_some hS (Rd.own 0 3 rfl) g4 e0
          refine EL.of (EO.Y (YO.idx 39 1 e4 a0.length a3 .i64 b8 95 (by kernel_rfl) (by kernel_rfl) (by kernel_rfl) (by kernel_rfl) g4 e0) ?_)
          refine EL.of (EO.Y (YO.loadEl hS (Kd.int .i64) e4 a3 a0 (Rd.own 0 3 rfl) 0 (encI .i64) encI_of b8 g4 e0 3 1 0 1 rfl (.int .i64 (a0.getD b8.toNat 0)) 96 (by kernel_rfl) (by kernel_rfl) (by kernel_rfl) (by kernel_rfl)) ?_)
          refine EL.quick 1 [14, 17, 97] [(14, .slice (some e4) a0.length a3), (17, .int .i64 b8), (97, .bool (!(decide ((a0.getD b8.toNat 0) = (-1)))))] (by kernel_rfl) ?_
          refine EL.done (by kernel_rfl) ?_
          refine EQ.code ?_
          refine EW.condQ (b := !(decide ((a0.getD b8.toNat 0) = (-1)))) (o := (.tmp 97)) (x := Cd7.r.r.r.r.r.r.r.r.r.r.r.r.l.r.l.l.r.l.l.r.l) (y := Cd7.r.r.r.r.r.r.r.r.r.r.r.r.l.r.l.l.r.l.l.r.r) ((a0.getD b8.toNat 0) = (-1)) (false) (by kernel_rfl) (by kernel_rfl) ⟨fun h => (by rw [decide_eq_true h] <;> rfl), fun h => (by rw [decide_eq_false h] <;> rfl)⟩ (fun g5 => ?_) (fun g5 => ?_)
          ·rw [if_pos g5] at H
           refine EW.skip (by kernel_rfl) ?_
           refine EQ.pop ?_
           refine EQ.code ?_
           refine EW.region (id := 24) (ops := Cd7.r.r.r.r.r.r.r.r.r.r.r.r.l.r.l.l.r.r.ops) (by kernel_rfl) ?_
           refine EL.quick 3 [14, 17] [(14, .slice (some e4) a0.length a3), (17, .int .i64 (IntKind.i64.wrap (b8 + 1)))] (by kernel_rfl) ?_
           refine EL.done (by kernel_rfl) ?_
           refine EQ.to ?_
           refine EQ.keep [14, 17] [(14, .slice (some e4) a0.length a3), (17, .int .i64 (IntKind.i64.wrap (b8 + 1)))] (by kernel_rfl) ?_
           exact fun a ha => ⟨n, Nat.lt_succ_self n, IntKind.i64.wrap (b8 + 1), ha, (hS.re [1, 1] [] rfl (sub_cons 0 rfl (sub_cons 0 rfl (sub_cons 2 rfl (sub_cons 2 rfl (sub_cons 2 rfl (sub_cons 5 rfl (sub_tail (sub_tail (sub_tail (sub_tail (sub_tail (sub_tail (sub_self)))))))))))))), H⟩
          ·rw [if_neg g5] at H
           refine EW.seq (x := Cd7.r.r.r.r.r.r.r.r.r.r.r.r.l.r.l.l.r.l.l.r.l.l) (y := Cd7.r.r.r.r.r.r.r.r.r.r.r.r.l.r.l.l.r.l.l.r.l.r) (by kernel_rfl) ?_
           refine EW.region (id := 26) (ops := Cd7.r.r.r.r.r.r.r.r.r.r.r.r.l.r.l.l.r.l.l.r.l.l.ops) (by kernel_rfl) ?_
           refine EL.quick 1 [6] [(6, .bool (false))] (by kernel_rfl) ?_
           refine EL.done (by kernel_rfl) ?_
           refine EQ.code ?_
           refine EW.ret (by kernel_rfl) ?_
           refine EQ.ret ?_
           refine EQ.ret ?_
           refine EQ.ret ?_
           refine EQ.ret ?_
           refine EQ.ret ?_
           obtain rfl := Option.some.inj H
           exact EQ.leave (.bool (false)) (by kernel_rfl) ⟨_, rfl, rfl, (hS.re [] [0, 0] rfl (sub_tail (sub_tail (sub_tail (sub_tail (sub_tail (sub_self)))))))⟩
         ·rw [if_neg e0] at H
          refine EW.exit (id := 2) (by kernel_rfl) ?_
          refine EQ.exitCode ?_
          refine EQ.exitTo ?_
          refine EQ.exitHere ?_
          refine EQ.to ?_
          refine EQ.keep [14] [(14, .slice a5 a0.length a3)] (by kernel_rfl) ?_
          exact fun a ha => ⟨ha, (hS.re [1, 1] [] rfl (sub_cons 0 rfl (sub_cons 0 rfl (sub_cons 2 rfl (sub_cons 2 rfl (sub_cons 2 rfl (sub_cons 5 rfl (sub_tail (sub_tail (sub_tail (sub_tail (sub_tail (sub_tail (sub_self)))))))))))))), H⟩
       ·obtain ⟨ha, hS, H⟩ := hI
        rw [j5] at H
        (try dsimp only at H)
        refine EW.at ?_ a ha
        clear ha a
        refine EW.seq (x := Cd7.r.r.r.r.r.r.r.r.r.r.r.r.r.l) (y := Cd7.r.r.r.r.r.r.r.r.r.r.r.r.r.r) (by kernel_rfl) ?_
        refine EW.region (id := 27) (ops := Cd7.r.r.r.r.r.r.r.r.r.r.r.r.r.l.ops) (by kernel_rfl) ?_
        refine EL.quick 1 [14, 98] [(14, .slice a5 a0.length a3), (98, .slice a5 a0.length a3)] (by kernel_rfl) ?_
        obtain ⟨g6, H⟩ := ite_in H
        obtain ⟨c6, rfl⟩ := St.rd_some hS (Rd.own 0 3 rfl) (by decide) g6
        refine EL.of (EO.Y (YO.idx 39 1 c6 a0.length a3 .i64 0 99 (by kernel_rfl) (by kernel_rfl) (by kernel_rfl) (by kernel_rfl) (by decide) g6) ?_)
        refine EL.of (EO.Y (YO.loadEl hS (Kd.int .i64) c6 a3 a0 (Rd.own 0 3 rfl) 0 (encI .i64) encI_of 0 (by decide) g6 3 1 0 1 rfl (.int .i64 (a0.getD (0 : Int).toNat 0)) 100 (by kernel_rfl) (by kernel_rfl) (by kernel_rfl) (by kernel_rfl)) ?_)
        refine EL.quick 2 [14, 102] [(14, .slice (some c6) a0.length a3), (102, .bool (decide ((a0.getD (0 : Int).toNat 0) = 0)))] (by kernel_rfl) ?_
        by_cases f3 : (a0.getD (0 : Int).toNat 0) = 0
        ·rw [if_pos f3] at H
         refine EL.keep [14, 102] [(14, .slice (some c6) a0.length a3), (102, .bool (decide ((a0.getD (0 : Int).toNat 0) = 0)))] (by kernel_rfl) ?_
         refine EL.as' [(14, .slice (some c6) a0.length a3), (102, .bool (true))] (by simp only [dec_t f3, Bool.not_true, Bool.not_false]) ?_
         refine EL.quick 1 [102, 103] [(102, .bool (true)), (103, .slice (some c6) a0.length a3)] (by kernel_rfl) ?_
         obtain ⟨g8, H⟩ := ite_in H
         refine EL.of (EO.Y (YO.idx 39 1 c6 a0.length a3 .i64 1 104 (by kernel_rfl) (by kernel_rfl) (by kernel_rfl) (by kernel_rfl) (by decide) g8) ?_)
         refine EL.of (EO.Y (YO.loadEl hS (Kd.int .i64) c6 a3 a0 (Rd.own 0 3 rfl) 0 (encI .i64) encI_of 1 (by decide) g8 3 1 0 1 rfl (.int .i64 (a0.getD (1 : Int).toNat 0)) 105 (by kernel_rfl) (by kernel_rfl) (by kernel_rfl) (by kernel_rfl)) ?_)
         refine EL.quick 3 [6] [(6, .bool (decide ((a0.getD (1 : Int).toNat 0) = 1)))] (by kernel_rfl) ?_
         refine EL.done (by kernel_rfl) ?_
         refine EQ.code ?_
         refine EW.ret (by kernel_rfl) ?_
         obtain rfl := Option.some.inj H
         exact EQ.leave (.bool (decide ((a0.getD (1 : Int).toNat 0) = 1))) (by kernel_rfl) ⟨_, rfl, rfl, (hS.re [] [0, 0] rfl (sub_tail (sub_tail (sub_tail (sub_tail (sub_tail (sub_self)))))))⟩
        ·rw [if_neg f3] at H
         refine EL.keep [14, 102] [(14, .slice (some c6) a0.length a3), (102, .bool (decide ((a0.getD (0 : Int).toNat 0) = 0)))] (by kernel_rfl) ?_
         refine EL.as' [(14, .slice (some c6) a0.length a3), (102, .bool (false))] (by simp only [dec_f f3, Bool.not_true, Bool.not_false]) ?_
         refine EL.quick 6 [6] [(6, .bool (false))] (by kernel_rfl) ?_
         refine EL.done (by kernel_rfl) ?_
         refine EQ.code ?_
         refine EW.ret (by kernel_rfl) ?_
         obtain rfl := Option.some.inj H
         exact EQ.leave (.bool (false)) (by kernel_rfl) ⟨_, rfl, rfl, (hS.re [] [0, 0] rfl (sub_tail (sub_tail (sub_tail (sub_tail (sub_tail (sub_self)))))))⟩
 ·rw [if_neg f9] at H
  refine EW.seq (x := Cd7.r.l.r.l.l) (y := Cd7.r.l.r.l.r) (by kernel_rfl) ?_
  refine EW.region (id := 2) (ops := Cd7.r.l.r.l.l.ops) (by kernel_rfl) ?_
  refine EL.quick 1 [6] [(6, .bool (false))] (by kernel_rfl) ?_
  refine EL.done (by kernel_rfl) ?_
  refine EQ.code ?_
  refine EW.ret (by kernel_rfl) ?_
  refine EQ.ret ?_
  obtain rfl := Option.some.inj H
  exact EQ.leave (.bool (false)) (by kernel_rfl) ⟨_, rfl, rfl, (hS.re [] [] rfl (sub_self))⟩

def okS51 (s : S51) : Prop := ((Lit.int .u8 s.f0).wf = true) ∧ ((Lit.int .u8 s.f1).wf = true) ∧ True
theorem oS51 : Opens Try.prog 51 kS51 okS51 := Opens.array (fun s : S51 => (s.f0, s.f1, ())) (fun a => ⟨a.1, a.2.1⟩) (fun _ => rfl) Try.underlying51 (by kernel_rfl) (OpensA.cons (Opens.int Try.underlying5) (OpensA.cons (Opens.int Try.underlying5) OpensA.nil rfl) rfl) (by kernel_rfl)
def confidantlaw8_VerifyEnds.Pure : Prop := ∀ (l6 : List S51) (a9 : Bool) (a10 : Int), l6.length * 2 ≤ 140737488351232 → (∀ x ∈ l6, okS51 x) → (Lit.int .u8 a10).wf = true → ∃ K, confidantlaw8_VerifyEnds.f K l6 a9 a10 = some true

end Go.Proofs.Ytlcnkngpankkpaa.G
