import Derived.Test.YtipaaapbapijhaaProg
import Derived.Test.YtipaaapbapijhaaFwEq
import Derived.Test.YtipaaapbapijhaaFwOpen
import Derived.Test.YtipaaapbapijhaaG0
import Derived.Test.YtipaaapbapijhaaG2
namespace Go.Proofs.Ytipaaapbapijhaa.G
open Go Go.Fw Go.RowKit Go.Proofs
set_option linter.unusedVariables false
set_option linter.unusedSimpArgs false

/-! ### (*confidant/confidantref1.Reader).Num: function 62 -/
def confidantref1_Reader_Num.l0 (K : Nat) (a1 : List Int) (a6 : Int) (a3 : Int) (b0 : Option (List Int × Int × Int)) : Nat → Int → Int → Option (List Int × Int × Int)
 | 0, _, _ => none
 | n + 1, a4, a0 => if a0 < (a1.length : Int) then (if 0 ≤ a0 then (lt (fun (b5 : Bool) => (if b5 = true then (b2 (confidantref1_Reader_fail.f K a1 a6 20) fun (d0 : List Int) (d1 : Int) => (some (d0, d1, 0))) else (lt (bO .u64 (sL .u64 a4 7) (IntKind.u64.wrap (bA .u8 (a1.getD a0.toNat 0) 127))) fun a7 => (if (a1.getD a0.toNat 0) < 128 then (if a7 > a3 then (b2 (confidantref1_Reader_fail.f K a1 a6 22) fun (d2 : List Int) (d3 : Int) => (some (d2, d3, 0))) else (if 0 ≤ (IntKind.i64.wrap (a0 + 1)) then (if (IntKind.i64.wrap (a0 + 1)) ≤ (a1.length : Int) then (lt (a1.drop ((IntKind.i64.wrap (a0 + 1)).toNat)) fun b1 => (some (b1, a6, a7))) else none) else none)) else (confidantref1_Reader_Num.l0 K a1 a6 a3 b0 n a7 (IntKind.i64.wrap (a0 + 1))))))) fun b8 => (if a0 = 0 then (if (a1.getD a0.toNat 0) = 128 then (b8 true) else (b8 (decide (a4 > 144115188075855871)))) else (b8 (decide (a4 > 144115188075855871))))) else none) else (b0)
def confidantref1_Reader_Num.f (K : Nat) (a1 : List Int) (a6 : Int) (a3 : Int) : Option (List Int × Int × Int) := if a6 = 0 then (lt (b2 (confidantref1_Reader_fail.f K a1 a6 21) fun (d4 : List Int) (d5 : Int) => (some (d4, d5, 0))) fun b0 => (confidantref1_Reader_Num.l0 K a1 a6 a3 b0 K 0 0)) else (some (a1, a6, 0))
set_option maxRecDepth 100000 in
theorem confidantref1_Reader_Num.calls {K : Nat} {a1 : List Int} {a6 : Int} {a3 : Int} {a2 : Nat} {a8 : Option Addr} {a5 : Nat} {b4 : List Int} {b9 : Int} {c0 : Int} {B w : World} {os : List Ass} {rs : List Ro} (H : confidantref1_Reader_Num.f K a1 a6 a3 = some (b4, b9, c0)) (hS : St B w (Ass.box 127 a2 [.slice a8 a1.length a5, .int .i64 a6] :: os) (Ro.sl (Kd.int .u8) a8 a5 a1 :: rs)) :
  Calls Try.prog 62 [.pointer (some ⟨a2, 0, none⟩), .int .u64 a3].toArray w (fun en w' => ∃ v, en = .returned v ∧ ∃ c8 : Option Addr, ∃ c9 : Nat, v = .int .u64 c0 ∧ St B w' (Ass.box 127 a2 [.slice c8 b4.length c9, .int .i64 b9] :: os) (Ro.sl (Kd.int .u8) c8 c9 b4 :: Ro.sl (Kd.int .u8) a8 a5 a1 :: rs)) := by
 unfold confidantref1_Reader_Num.f at H
 refine calls_of_EW (args := [.pointer (some ⟨a2, 0, none⟩), .int .u64 a3]) (c := Cd62) 67 Try.func62 (by kernel_rfl) (by kernel_rfl) (by kernel_rfl) ?_
 refine EW.seq (x := Cd62.l) (y := Cd62.r) (by kernel_rfl) ?_
 refine EW.region (id := 0) (ops := Cd62.l.ops) (by kernel_rfl) ?_
 refine EL.quick 1 [0, 1] [(0, .pointer (some ⟨a2, 0, none⟩)), (1, .int .u64 a3)] (by kernel_rfl) ?_
 refine EL.done (by kernel_rfl) ?_
 refine EQ.code ?_
 refine EW.seq (x := Cd62.r.l) (y := Cd62.r.r) (by kernel_rfl) ?_
 refine EW.seq (x := Cd62.r.l.l) (y := Cd62.r.l.r) (by kernel_rfl) ?_
 refine EW.region (id := 1) (ops := Cd62.r.l.l.ops) (by kernel_rfl) ?_
 refine EL.quick 3 [0, 1, 10] [(0, .pointer (some ⟨a2, 0, none⟩)), (1, .int .u64 a3), (10, .pointer (some ⟨a2, 1, none⟩))] (by kernel_rfl) ?_
 refine EL.of (EO.Y (YO.loadBox hS 0 rfl 3 1 1 (.int .i64 a6) 11 (by kernel_rfl) (by kernel_rfl) (by kernel_rfl) (by kernel_rfl)) ?_)
 refine EL.quick 1 [0, 1, 12] [(0, .pointer (some ⟨a2, 0, none⟩)), (1, .int .u64 a3), (12, .bool (!(decide (a6 = 0))))] (by kernel_rfl) ?_
 refine EL.done (by kernel_rfl) ?_
 refine EQ.code ?_
 refine EW.condQ (b := !(decide (a6 = 0))) (o := (.tmp 12)) (x := Cd62.r.l.r.l) (y := Cd62.r.l.r.r) (a6 = 0) (false) (by kernel_rfl) (by kernel_rfl) ⟨fun h => (by rw [decide_eq_true h] <;> rfl), fun h => (by rw [decide_eq_false h] <;> rfl)⟩ (fun c3 => ?_) (fun c3 => ?_)
 ·rw [if_pos c3] at H
  refine EW.skip (by kernel_rfl) ?_
  refine EQ.code ?_
  refine EW.seq (x := Cd62.r.r.l) (y := Cd62.r.r.r) (by kernel_rfl) ?_
  refine EW.region (id := 3) (ops := Cd62.r.r.l.ops) (by kernel_rfl) ?_
  refine EL.quick 1 [0, 1, 5] [(0, .pointer (some ⟨a2, 0, none⟩)), (1, .int .u64 a3), (5, .int .u64 0)] (by kernel_rfl) ?_
  refine EL.done (by kernel_rfl) ?_
  refine EQ.code ?_
  obtain ⟨b0, e5, H⟩ := lt_out H
  refine EW.cut (x := Cd62.r.r.r.l) (y := Cd62.r.r.r.r) (fun a w => Sat 67 [(0, .pointer (some ⟨a2, 0, none⟩))] a ∧ St B w (Ass.box 127 a2 [.slice a8 a1.length a5, .int .i64 a6] :: os) (Ro.sl (Kd.int .u8) a8 a5 a1 :: rs) ∧ b0 = some (b4, b9, c0)) (by kernel_rfl) ?_ (fun a w hI => ?_)
  ·refine EW.seq (x := Cd62.r.r.r.l.l) (y := Cd62.r.r.r.l.r) (by kernel_rfl) ?_
   refine EW.region (id := 4) (ops := Cd62.r.r.r.l.l.ops) (by kernel_rfl) ?_
   refine EL.quick 1 [0, 1, 5, 6] [(0, .pointer (some ⟨a2, 0, none⟩)), (1, .int .u64 a3), (5, .int .u64 0), (6, .int .i64 0)] (by kernel_rfl) ?_
   refine EL.done (by kernel_rfl) ?_
   refine EQ.code ?_
   refine EW.block (x := Cd62.r.r.r.l.r.l) (id := 0) (by kernel_rfl) ?_
   refine EW.loop (x := Cd62.r.r.r.l.r.l.l) (fun n a w => ∃ a4 : Int, ∃ a0 : Int, Sat 67 [(0, .pointer (some ⟨a2, 0, none⟩)), (1, .int .u64 a3), (5, .int .u64 a4), (6, .int .i64 a0)] a ∧ St B w (Ass.box 127 a2 [.slice a8 a1.length a5, .int .i64 a6] :: os) (Ro.sl (Kd.int .u8) a8 a5 a1 :: rs) ∧ confidantref1_Reader_Num.l0 K a1 a6 a3 b0 n a4 a0 = some (b4, b9, c0)) K (by kernel_rfl) ?_ (fun n a w hI => ?_)
   ·refine EQ.keep [0, 1, 5, 6] [(0, .pointer (some ⟨a2, 0, none⟩)), (1, .int .u64 a3), (5, .int .u64 0), (6, .int .i64 0)] (by kernel_rfl) ?_
    exact fun a ha => ⟨0, 0, ha, (hS.re [0] [] rfl (sub_cons 0 rfl (sub_tail (sub_self)))), H⟩
   ·obtain ⟨a4, a0, ha, hS, H⟩ := hI
    obtain _ | n := n
    ·simp [confidantref1_Reader_Num.l0] at H
    rw [confidantref1_Reader_Num.l0.eq_2] at H
    refine EW.at ?_ a ha
    clear ha a
    refine EW.seq (x := Cd62.r.r.r.l.r.l.l.l) (y := Cd62.r.r.r.l.r.l.l.r) (by kernel_rfl) ?_
    refine EW.seq (x := Cd62.r.r.r.l.r.l.l.l.l) (y := Cd62.r.r.r.l.r.l.l.l.r) (by kernel_rfl) ?_
    refine EW.region (id := 5) (ops := Cd62.r.r.r.l.r.l.l.l.l.ops) (by kernel_rfl) ?_
    refine EL.quick 4 [0, 1, 5, 6, 13, 16] [(0, .pointer (some ⟨a2, 0, none⟩)), (1, .int .u64 a3), (5, .int .u64 a4), (6, .int .i64 a0), (13, .int .i64 a0), (16, .pointer (some ⟨a2, 0, none⟩))] (by kernel_rfl) ?_
    refine EL.of (EO.Y (YO.loadBox hS 0 rfl 75 0 1 (.slice a8 a1.length a5) 17 (by kernel_rfl) (by kernel_rfl) (by kernel_rfl) (by kernel_rfl)) ?_)
    refine EL.quick 2 [0, 1, 5, 6, 19] [(0, .pointer (some ⟨a2, 0, none⟩)), (1, .int .u64 a3), (5, .int .u64 a4), (6, .int .i64 a0), (19, .bool (decide (a0 < (a1.length : Int))))] (by kernel_rfl) ?_
    refine EL.done (by kernel_rfl) ?_
    refine EQ.code ?_
    refine EW.condP (o := (.tmp 19)) (x := Cd62.r.r.r.l.r.l.l.l.r.l) (y := Cd62.r.r.r.l.r.l.l.l.r.r) (a0 < (a1.length : Int)) (by kernel_rfl) (by kernel_rfl) (fun b3 => ?_) (fun b3 => ?_)
    ·rw [if_pos b3] at H
     refine EW.skip (by kernel_rfl) ?_
     refine EQ.code ?_
     refine EW.seq (x := Cd62.r.r.r.l.r.l.l.r.l) (y := Cd62.r.r.r.l.r.l.l.r.r) (by kernel_rfl) ?_
     refine EW.block (x := Cd62.r.r.r.l.r.l.l.r.l.l) (id := 1) (by kernel_rfl) ?_
     refine EW.seq (x := Cd62.r.r.r.l.r.l.l.r.l.l.l) (y := Cd62.r.r.r.l.r.l.l.r.l.l.r) (by kernel_rfl) ?_
     refine EW.region (id := 7) (ops := Cd62.r.r.r.l.r.l.l.r.l.l.l.ops) (by kernel_rfl) ?_
     refine EL.quick 3 [0, 1, 5, 6, 24] [(0, .pointer (some ⟨a2, 0, none⟩)), (1, .int .u64 a3), (5, .int .u64 a4), (6, .int .i64 a0), (24, .pointer (some ⟨a2, 0, none⟩))] (by kernel_rfl) ?_
     refine EL.of (EO.Y (YO.loadBox hS 0 rfl 75 0 1 (.slice a8 a1.length a5) 25 (by kernel_rfl) (by kernel_rfl) (by kernel_rfl) (by kernel_rfl)) ?_)
     refine EL.quick 1 [0, 1, 5, 6, 25, 26] [(0, .pointer (some ⟨a2, 0, none⟩)), (1, .int .u64 a3), (5, .int .u64 a4), (6, .int .i64 a0), (25, .slice a8 a1.length a5), (26, .int .i64 a0)] (by kernel_rfl) ?_
     obtain ⟨c4, H⟩ := ite_in H
     obtain ⟨a9, rfl⟩ := St.rd_some hS (Rd.ro 0 rfl) c4 b3
     refine EL.of (EO.Y (YO.idx 75 1 a9 a1.length a5 .i64 a0 27 (by kernel_rfl) (by kernel_rfl) (by kernel_rfl) (by kernel_rfl) c4 b3) ?_)
     refine EL.of (EO.Y (YO.loadEl hS (Kd.int .u8) a9 a5 a1 (Rd.ro 0 rfl) 0 (encI .u8) encI_of a0 c4 b3 5 1 0 1 rfl (.int .u8 (a1.getD a0.toNat 0)) 28 (by kernel_rfl) (by kernel_rfl) (by kernel_rfl) (by kernel_rfl)) ?_)
     refine EL.quick 1 [0, 1, 5, 6, 7] [(0, .pointer (some ⟨a2, 0, none⟩)), (1, .int .u64 a3), (5, .int .u64 a4), (6, .int .i64 a0), (7, .int .u8 (a1.getD a0.toNat 0))] (by kernel_rfl) ?_
     refine EL.done (by kernel_rfl) ?_
     refine EQ.code ?_
     refine EW.seq (x := Cd62.r.r.r.l.r.l.l.r.l.l.r.l) (y := Cd62.r.r.r.l.r.l.l.r.l.l.r.r) (by kernel_rfl) ?_
     obtain ⟨b8, e6, H⟩ := lt_out H
     refine EW.cut (x := Cd62.r.r.r.l.r.l.l.r.l.l.r.l.l) (y := Cd62.r.r.r.l.r.l.l.r.l.l.r.l.r) (fun a w => ∃ b5 : Bool, Sat 67 [(0, .pointer (some ⟨a2, 0, none⟩)), (1, .int .u64 a3), (5, .int .u64 a4), (6, .int .i64 a0), (7, .int .u8 (a1.getD a0.toNat 0)), (38, .bool (b5))] a ∧ St B w (Ass.box 127 a2 [.slice (some a9) a1.length a5, .int .i64 a6] :: os) (Ro.sl (Kd.int .u8) (some a9) a5 a1 :: rs) ∧ b8 b5 = some (b4, b9, c0)) (by kernel_rfl) ?_ (fun a w hI => ?_)
     ·refine EW.region (id := 8) (ops := Cd62.r.r.r.l.r.l.l.r.l.l.r.l.l.ops) (by kernel_rfl) ?_
      refine EL.quick 3 [0, 1, 5, 6, 7, 31] [(0, .pointer (some ⟨a2, 0, none⟩)), (1, .int .u64 a3), (5, .int .u64 a4), (6, .int .i64 a0), (7, .int .u8 (a1.getD a0.toNat 0)), (31, .bool (decide (a0 = 0)))] (by kernel_rfl) ?_
      by_cases c1 : a0 = 0
      ·rw [if_pos c1] at H
       refine EL.keep [0, 1, 5, 6, 7, 31] [(0, .pointer (some ⟨a2, 0, none⟩)), (1, .int .u64 a3), (5, .int .u64 a4), (6, .int .i64 a0), (7, .int .u8 (a1.getD a0.toNat 0)), (31, .bool (decide (a0 = 0)))] (by kernel_rfl) ?_
       refine EL.as' [(0, .pointer (some ⟨a2, 0, none⟩)), (1, .int .u64 a3), (5, .int .u64 a4), (6, .int .i64 a0), (7, .int .u8 (a1.getD a0.toNat 0)), (31, .bool (true))] (by simp only [dec_t c1, Bool.not_true, Bool.not_false]) ?_
       refine EL.quick 4 [0, 1, 5, 6, 7, 32, 33, 35] [(0, .pointer (some ⟨a2, 0, none⟩)), (1, .int .u64 a3), (5, .int .u64 a4), (6, .int .i64 a0), (7, .int .u8 (a1.getD a0.toNat 0)), (32, .int .u8 (a1.getD a0.toNat 0)), (33, .bool (decide ((a1.getD a0.toNat 0) = 128))), (35, .bool (decide ((a1.getD a0.toNat 0) = 128)))] (by kernel_rfl) ?_
       by_cases c2 : (a1.getD a0.toNat 0) = 128
       ·rw [if_pos c2] at H
        refine EL.keep [0, 1, 5, 6, 7, 32, 33, 35] [(0, .pointer (some ⟨a2, 0, none⟩)), (1, .int .u64 a3), (5, .int .u64 a4), (6, .int .i64 a0), (7, .int .u8 (a1.getD a0.toNat 0)), (32, .int .u8 (a1.getD a0.toNat 0)), (33, .bool (decide ((a1.getD a0.toNat 0) = 128))), (35, .bool (decide ((a1.getD a0.toNat 0) = 128)))] (by kernel_rfl) ?_
        refine EL.as' [(0, .pointer (some ⟨a2, 0, none⟩)), (1, .int .u64 a3), (5, .int .u64 a4), (6, .int .i64 a0), (7, .int .u8 (a1.getD a0.toNat 0)), (32, .int .u8 (a1.getD a0.toNat 0)), (33, .bool (true)), (35, .bool (true))] (by simp only [dec_t c2, Bool.not_true, Bool.not_false]) ?_
        refine EL.quick 3 [0, 1, 5, 6, 7, 32, 33, 38] [(0, .pointer (some ⟨a2, 0, none⟩)), (1, .int .u64 a3), (5, .int .u64 a4), (6, .int .i64 a0), (7, .int .u8 (a1.getD a0.toNat 0)), (32, .int .u8 (a1.getD a0.toNat 0)), (33, .bool (true)), (38, .bool (true))] (by kernel_rfl) ?_
        refine EL.done (by kernel_rfl) ?_
        refine EQ.to ?_
        refine EQ.keep [0, 1, 5, 6, 7, 38] [(0, .pointer (some ⟨a2, 0, none⟩)), (1, .int .u64 a3), (5, .int .u64 a4), (6, .int .i64 a0), (7, .int .u8 (a1.getD a0.toNat 0)), (38, .bool (true))] (by kernel_rfl) ?_
        exact fun a ha => ⟨true, ha, (hS.re [0] [] rfl (sub_cons 0 rfl (sub_tail (sub_self)))), H⟩
       ·rw [if_neg c2] at H
        refine EL.keep [0, 1, 5, 6, 7, 32, 33, 35] [(0, .pointer (some ⟨a2, 0, none⟩)), (1, .int .u64 a3), (5, .int .u64 a4), (6, .int .i64 a0), (7, .int .u8 (a1.getD a0.toNat 0)), (32, .int .u8 (a1.getD a0.toNat 0)), (33, .bool (decide ((a1.getD a0.toNat 0) = 128))), (35, .bool (decide ((a1.getD a0.toNat 0) = 128)))] (by kernel_rfl) ?_
        refine EL.as' [(0, .pointer (some ⟨a2, 0, none⟩)), (1, .int .u64 a3), (5, .int .u64 a4), (6, .int .i64 a0), (7, .int .u8 (a1.getD a0.toNat 0)), (32, .int .u8 (a1.getD a0.toNat 0)), (33, .bool (false)), (35, .bool (false))] (by simp only [dec_f c2, Bool.not_true, Bool.not_false]) ?_
        refine EL.quick 3 [0, 1, 5, 6, 7, 32, 33, 36, 37, 38] [(0, .pointer (some ⟨a2, 0, none⟩)), (1, .int .u64 a3), (5, .int .u64 a4), (6, .int .i64 a0), (7, .int .u8 (a1.getD a0.toNat 0)), (32, .int .u8 (a1.getD a0.toNat 0)), (33, .bool (false)), (36, .int .u64 a4), (37, .bool (decide (a4 > 144115188075855871))), (38, .bool (decide (a4 > 144115188075855871)))] (by kernel_rfl) ?_
        refine EL.done (by kernel_rfl) ?_
        refine EQ.to ?_
        refine EQ.keep [0, 1, 5, 6, 7, 38] [(0, .pointer (some ⟨a2, 0, none⟩)), (1, .int .u64 a3), (5, .int .u64 a4), (6, .int .i64 a0), (7, .int .u8 (a1.getD a0.toNat 0)), (38, .bool (decide (a4 > 144115188075855871)))] (by kernel_rfl) ?_
        exact fun a ha => ⟨decide (a4 > 144115188075855871), ha, (hS.re [0] [] rfl (sub_cons 0 rfl (sub_tail (sub_self)))), H⟩
      ·rw [if_neg c1] at H
       refine EL.keep [0, 1, 5, 6, 7, 31] [(0, .pointer (some ⟨a2, 0, none⟩)), (1, .int .u64 a3), (5, .int .u64 a4), (6, .int .i64 a0), (7, .int .u8 (a1.getD a0.toNat 0)), (31, .bool (decide (a0 = 0)))] (by kernel_rfl) ?_
       refine EL.as' [(0, .pointer (some ⟨a2, 0, none⟩)), (1, .int .u64 a3), (5, .int .u64 a4), (6, .int .i64 a0), (7, .int .u8 (a1.getD a0.toNat 0)), (31, .bool (false))] (by simp only [dec_f c1, Bool.not_true, Bool.not_false]) ?_
       refine EL.quick 7 [0, 1, 5, 6, 7, 36, 37, 38] [(0, .pointer (some ⟨a2, 0, none⟩)), (1, .int .u64 a3), (5, .int .u64 a4), (6, .int .i64 a0), (7, .int .u8 (a1.getD a0.toNat 0)), (36, .int .u64 a4), (37, .bool (decide (a4 > 144115188075855871))), (38, .bool (decide (a4 > 144115188075855871)))] (by kernel_rfl) ?_
       refine EL.done (by kernel_rfl) ?_
       refine EQ.to ?_
       refine EQ.keep [0, 1, 5, 6, 7, 38] [(0, .pointer (some ⟨a2, 0, none⟩)), (1, .int .u64 a3), (5, .int .u64 a4), (6, .int .i64 a0), (7, .int .u8 (a1.getD a0.toNat 0)), (38, .bool (decide (a4 > 144115188075855871)))] (by kernel_rfl) ?_
       exact fun a ha => ⟨decide (a4 > 144115188075855871), ha, (hS.re [0] [] rfl (sub_cons 0 rfl (sub_tail (sub_self)))), H⟩
     ·obtain ⟨b5, ha, hS, H⟩ := hI
      rw [e6] at H
      (try dsimp only at H)
      refine EW.at ?_ a ha
      clear ha a
      refine EW.condP' (o := (.tmp 38)) (x := Cd62.r.r.r.l.r.l.l.r.l.l.r.l.r.l) (y := Cd62.r.r.r.l.r.l.l.r.l.l.r.l.r.r) (b5) (by kernel_rfl) (by kernel_rfl) (fun c5 => ?_) (fun c5 => ?_)
      ·rw [if_pos c5] at H
       refine EW.seq (x := Cd62.r.r.r.l.r.l.l.r.l.l.r.l.r.l.l) (y := Cd62.r.r.r.l.r.l.l.r.l.l.r.l.r.l.r) (by kernel_rfl) ?_
       refine EW.region (id := 9) (ops := Cd62.r.r.r.l.r.l.l.r.l.l.r.l.r.l.l.ops) (by kernel_rfl) ?_
       refine EL.quick 1 [39] [(39, .pointer (some ⟨a2, 0, none⟩))] (by kernel_rfl) ?_
       have hS : St B _ (Ass.box 127 a2 [.slice (some a9) a1.length a5, .int .i64 a6] :: os) (Ro.sl (Kd.int .u8) (some a9) a5 a1 :: Ro.sl (Kd.int .u8) (some a9) a5 a1 :: rs) := hS.re [0] [] rfl (sub_cons 0 rfl sub_self)
       obtain ⟨d0, d1, e2, H⟩ := b2_out H
       refine EL.of (EO.callD 72 [.pointer (some ⟨a2, 0, none⟩), .int .i64 20] _ 40 (by kernel_rfl) (by kernel_rfl) (by kernel_rfl) (confidantref1_Reader_fail.calls e2 hS) ?_)
       rintro v w ⟨d6, d9, rfl, hS⟩
       refine EL.done (by kernel_rfl) ?_
       refine EQ.code ?_
       refine EW.seq (x := Cd62.r.r.r.l.r.l.l.r.l.l.r.l.r.l.r.l) (y := Cd62.r.r.r.l.r.l.l.r.l.l.r.l.r.l.r.r) (by kernel_rfl) ?_
       refine EW.region (id := 10) (ops := Cd62.r.r.r.l.r.l.l.r.l.l.r.l.r.l.r.l.ops) (by kernel_rfl) ?_
       refine EL.quick 1 [4] [(4, .int .u64 0)] (by kernel_rfl) ?_
       refine EL.done (by kernel_rfl) ?_
       refine EQ.code ?_
       refine EW.ret (by kernel_rfl) ?_
       refine EQ.ret ?_
       refine EQ.ret ?_
       refine EQ.ret ?_
       refine EQ.ret ?_
       refine EQ.ret ?_
       refine EQ.ret ?_
       have hS := St.fr hS 1 rfl
       simp only [Option.some.injEq, Prod.mk.injEq] at H
       obtain ⟨rfl, rfl, rfl⟩ := H
       exact EQ.leave (.int .u64 0) (by kernel_rfl) ⟨_, rfl, d6, d9, rfl, (hS.re [0] [] rfl (sub_cons 0 rfl (sub_tail (sub_tail (sub_self)))))⟩
      ·rw [if_neg c5] at H
       refine EW.skip (by kernel_rfl) ?_
       refine EQ.code ?_
       refine EW.seq (x := Cd62.r.r.r.l.r.l.l.r.l.l.r.r.l) (y := Cd62.r.r.r.l.r.l.l.r.l.l.r.r.r) (by kernel_rfl) ?_
       refine EW.region (id := 11) (ops := Cd62.r.r.r.l.r.l.l.r.l.l.r.r.l.ops) (by kernel_rfl) ?_
       refine EL.quick 7 [0, 1, 5, 6, 7] [(0, .pointer (some ⟨a2, 0, none⟩)), (1, .int .u64 a3), (5, .int .u64 (bO .u64 (sL .u64 a4 7) (IntKind.u64.wrap (bA .u8 (a1.getD a0.toNat 0) 127)))), (6, .int .i64 a0), (7, .int .u8 (a1.getD a0.toNat 0))] (by kernel_rfl) ?_
       obtain ⟨a7, e8, H⟩ := lt_out H
       refine EL.keep [0, 1, 5, 6, 7] [(0, .pointer (some ⟨a2, 0, none⟩)), (1, .int .u64 a3), (5, .int .u64 (bO .u64 (sL .u64 a4 7) (IntKind.u64.wrap (bA .u8 (a1.getD a0.toNat 0) 127)))), (6, .int .i64 a0), (7, .int .u8 (a1.getD a0.toNat 0))] (by kernel_rfl) ?_
       refine EL.as' [(0, .pointer (some ⟨a2, 0, none⟩)), (1, .int .u64 a3), (5, .int .u64 a7), (6, .int .i64 a0), (7, .int .u8 (a1.getD a0.toNat 0))] (by subst e8; rfl) ?_
       refine EL.done (by kernel_rfl) ?_
       refine EQ.code ?_
       refine EW.seq (x := Cd62.r.r.r.l.r.l.l.r.l.l.r.r.r.l) (y := Cd62.r.r.r.l.r.l.l.r.l.l.r.r.r.r) (by kernel_rfl) ?_
       refine EW.region (id := 12) (ops := Cd62.r.r.r.l.r.l.l.r.l.l.r.r.r.l.ops) (by kernel_rfl) ?_
       refine EL.quick 2 [0, 1, 5, 6, 48] [(0, .pointer (some ⟨a2, 0, none⟩)), (1, .int .u64 a3), (5, .int .u64 a7), (6, .int .i64 a0), (48, .bool (decide ((a1.getD a0.toNat 0) < 128)))] (by kernel_rfl) ?_
       refine EL.done (by kernel_rfl) ?_
       refine EQ.code ?_
       refine EW.condP (o := (.tmp 48)) (x := Cd62.r.r.r.l.r.l.l.r.l.l.r.r.r.r.l) (y := Cd62.r.r.r.l.r.l.l.r.l.l.r.r.r.r.r) ((a1.getD a0.toNat 0) < 128) (by kernel_rfl) (by kernel_rfl) (fun c6 => ?_) (fun c6 => ?_)
       ·rw [if_pos c6] at H
        refine EW.seq (x := Cd62.r.r.r.l.r.l.l.r.l.l.r.r.r.r.l.l) (y := Cd62.r.r.r.l.r.l.l.r.l.l.r.r.r.r.l.r) (by kernel_rfl) ?_
        refine EW.seq (x := Cd62.r.r.r.l.r.l.l.r.l.l.r.r.r.r.l.l.l) (y := Cd62.r.r.r.l.r.l.l.r.l.l.r.r.r.r.l.l.r) (by kernel_rfl) ?_
        refine EW.region (id := 13) (ops := Cd62.r.r.r.l.r.l.l.r.l.l.r.r.r.r.l.l.l.ops) (by kernel_rfl) ?_
        refine EL.quick 3 [0, 5, 6, 51] [(0, .pointer (some ⟨a2, 0, none⟩)), (5, .int .u64 a7), (6, .int .i64 a0), (51, .bool (decide (a7 > a3)))] (by kernel_rfl) ?_
        refine EL.done (by kernel_rfl) ?_
        refine EQ.code ?_
        refine EW.condP (o := (.tmp 51)) (x := Cd62.r.r.r.l.r.l.l.r.l.l.r.r.r.r.l.l.r.l) (y := Cd62.r.r.r.l.r.l.l.r.l.l.r.r.r.r.l.l.r.r) (a7 > a3) (by kernel_rfl) (by kernel_rfl) (fun c7 => ?_) (fun c7 => ?_)
        ·rw [if_pos c7] at H
         refine EW.seq (x := Cd62.r.r.r.l.r.l.l.r.l.l.r.r.r.r.l.l.r.l.l) (y := Cd62.r.r.r.l.r.l.l.r.l.l.r.r.r.r.l.l.r.l.r) (by kernel_rfl) ?_
         refine EW.region (id := 14) (ops := Cd62.r.r.r.l.r.l.l.r.l.l.r.r.r.r.l.l.r.l.l.ops) (by kernel_rfl) ?_
         refine EL.quick 1 [52] [(52, .pointer (some ⟨a2, 0, none⟩))] (by kernel_rfl) ?_
         have hS : St B _ (Ass.box 127 a2 [.slice (some a9) a1.length a5, .int .i64 a6] :: os) (Ro.sl (Kd.int .u8) (some a9) a5 a1 :: Ro.sl (Kd.int .u8) (some a9) a5 a1 :: rs) := hS.re [0] [] rfl (sub_cons 0 rfl sub_self)
         obtain ⟨d2, d3, e3, H⟩ := b2_out H
         refine EL.of (EO.callD 72 [.pointer (some ⟨a2, 0, none⟩), .int .i64 22] _ 53 (by kernel_rfl) (by kernel_rfl) (by kernel_rfl) (confidantref1_Reader_fail.calls e3 hS) ?_)
         rintro v w ⟨d7, e0, rfl, hS⟩
         refine EL.done (by kernel_rfl) ?_
         refine EQ.code ?_
         refine EW.seq (x := Cd62.r.r.r.l.r.l.l.r.l.l.r.r.r.r.l.l.r.l.r.l) (y := Cd62.r.r.r.l.r.l.l.r.l.l.r.r.r.r.l.l.r.l.r.r) (by kernel_rfl) ?_
         refine EW.region (id := 15) (ops := Cd62.r.r.r.l.r.l.l.r.l.l.r.r.r.r.l.l.r.l.r.l.ops) (by kernel_rfl) ?_
         refine EL.quick 1 [4] [(4, .int .u64 0)] (by kernel_rfl) ?_
         refine EL.done (by kernel_rfl) ?_
         refine EQ.code ?_
         refine EW.ret (by kernel_rfl) ?_
         refine EQ.ret ?_
         refine EQ.ret ?_
         refine EQ.ret ?_
         refine EQ.ret ?_
         refine EQ.ret ?_
         refine EQ.ret ?_
         have hS := St.fr hS 1 rfl
         simp only [Option.some.injEq, Prod.mk.injEq] at H
         obtain ⟨rfl, rfl, rfl⟩ := H
         exact EQ.leave (.int .u64 0) (by kernel_rfl) ⟨_, rfl, d7, e0, rfl, (hS.re [0] [] rfl (sub_cons 0 rfl (sub_tail (sub_tail (sub_self)))))⟩
        ·rw [if_neg c7] at H
         refine EW.skip (by kernel_rfl) ?_
         refine EQ.code ?_
         refine EW.seq (x := Cd62.r.r.r.l.r.l.l.r.l.l.r.r.r.r.l.r.l) (y := Cd62.r.r.r.l.r.l.l.r.l.l.r.r.r.r.l.r.r) (by kernel_rfl) ?_
         refine EW.region (id := 16) (ops := Cd62.r.r.r.l.r.l.l.r.l.l.r.r.r.r.l.r.l.ops) (by kernel_rfl) ?_
         refine EL.quick 4 [5, 6, 54, 57] [(5, .int .u64 a7), (6, .int .i64 a0), (54, .pointer (some ⟨a2, 0, none⟩)), (57, .pointer (some ⟨a2, 0, none⟩))] (by kernel_rfl) ?_
         refine EL.of (EO.Y (YO.loadBox hS 0 rfl 75 0 1 (.slice (some a9) a1.length a5) 58 (by kernel_rfl) (by kernel_rfl) (by kernel_rfl) (by kernel_rfl)) ?_)
         refine EL.quick 2 [5, 54, 58, 60] [(5, .int .u64 a7), (54, .pointer (some ⟨a2, 0, none⟩)), (58, .slice (some a9) a1.length a5), (60, .int .i64 (IntKind.i64.wrap (a0 + 1)))] (by kernel_rfl) ?_
         obtain ⟨e9, H⟩ := ite_in H
         obtain ⟨f0, H⟩ := ite_in H
         obtain ⟨b1, e7, H⟩ := lt_out H
         refine EL.of (EO.sliceRo hS (Kd.int .u8) (some a9) a5 a1 0 rfl (some (.int .i64 (IntKind.i64.wrap (a0 + 1)))) none none ((IntKind.i64.wrap (a0 + 1)).toNat) a1.length a5 b1 (by rw [e7]; exact (slice_lo _ _)) 75 61 (by kernel_rfl) (by kernel_rfl) (by kernel_rfl) (by kernel_rfl) ((Int.toNat_of_nonneg (by omega)).symm) (rfl) ⟨rfl, fun h => by first | rfl | cases h⟩ (by omega) (by omega) (.inl rfl) ?_)
         intro b6 b7 hS
         refine EL.quick 2 [5, 61, 63] [(5, .int .u64 a7), (61, .slice b6 b1.length b7), (63, .pointer (some ⟨a2, 0, none⟩))] (by kernel_rfl) ?_
         refine EL.of (EO.storeBox (os' := Ass.box 127 a2 [.slice b6 b1.length b7, .int .i64 a6] :: os) hS 0 rfl 75 0 (.slice b6 b1.length b7) [.slice b6 b1.length b7, .int .i64 a6] (by kernel_rfl) (by kernel_rfl) (by kernel_rfl) (by kernel_rfl) (by kernel_rfl) (by kernel_rfl) rfl rfl ?_)
         intro w hS
         refine EL.done (by kernel_rfl) ?_
         refine EQ.code ?_
         refine EW.seq (x := Cd62.r.r.r.l.r.l.l.r.l.l.r.r.r.r.l.r.r.l) (y := Cd62.r.r.r.l.r.l.l.r.l.l.r.r.r.r.l.r.r.r) (by kernel_rfl) ?_
         refine EW.region (id := 17) (ops := Cd62.r.r.r.l.r.l.l.r.l.l.r.r.r.r.l.r.r.l.ops) (by kernel_rfl) ?_
         refine EL.quick 2 [4] [(4, .int .u64 a7)] (by kernel_rfl) ?_
         refine EL.done (by kernel_rfl) ?_
         refine EQ.code ?_
         refine EW.ret (by kernel_rfl) ?_
         refine EQ.ret ?_
         refine EQ.ret ?_
         refine EQ.ret ?_
         refine EQ.ret ?_
         refine EQ.ret ?_
         simp only [Option.some.injEq, Prod.mk.injEq] at H
         obtain ⟨rfl, rfl, rfl⟩ := H
         exact EQ.leave (.int .u64 a7) (by kernel_rfl) ⟨_, rfl, b6, b7, rfl, (hS.re [0] [] rfl (sub_cons 0 rfl (sub_tail (sub_self))))⟩
       ·rw [if_neg c6] at H
        refine EW.skip (by kernel_rfl) ?_
        refine EQ.pop ?_
        refine EQ.code ?_
        refine EW.region (id := 6) (ops := Cd62.r.r.r.l.r.l.l.r.r.ops) (by kernel_rfl) ?_
        refine EL.quick 3 [0, 1, 5, 6] [(0, .pointer (some ⟨a2, 0, none⟩)), (1, .int .u64 a3), (5, .int .u64 a7), (6, .int .i64 (IntKind.i64.wrap (a0 + 1)))] (by kernel_rfl) ?_
        refine EL.done (by kernel_rfl) ?_
        refine EQ.to ?_
        refine EQ.keep [0, 1, 5, 6] [(0, .pointer (some ⟨a2, 0, none⟩)), (1, .int .u64 a3), (5, .int .u64 a7), (6, .int .i64 (IntKind.i64.wrap (a0 + 1)))] (by kernel_rfl) ?_
        exact fun a ha => ⟨n, Nat.lt_succ_self n, a7, IntKind.i64.wrap (a0 + 1), ha, (hS.re [0] [] rfl (sub_cons 0 rfl (sub_tail (sub_self)))), H⟩
    ·rw [if_neg b3] at H
     refine EW.exit (id := 0) (by kernel_rfl) ?_
     refine EQ.exitCode ?_
     refine EQ.exitTo ?_
     refine EQ.exitHere ?_
     refine EQ.to ?_
     refine EQ.keep [0] [(0, .pointer (some ⟨a2, 0, none⟩))] (by kernel_rfl) ?_
     exact fun a ha => ⟨ha, (hS.re [0] [] rfl (sub_cons 0 rfl (sub_tail (sub_self)))), H⟩
  ·obtain ⟨ha, hS, H⟩ := hI
   rw [e5] at H
   (try dsimp only at H)
   refine EW.at ?_ a ha
   clear ha a
   refine EW.seq (x := Cd62.r.r.r.r.l) (y := Cd62.r.r.r.r.r) (by kernel_rfl) ?_
   refine EW.region (id := 18) (ops := Cd62.r.r.r.r.l.ops) (by kernel_rfl) ?_
   refine EL.quick 1 [65] [(65, .pointer (some ⟨a2, 0, none⟩))] (by kernel_rfl) ?_
   have hS : St B _ (Ass.box 127 a2 [.slice a8 a1.length a5, .int .i64 a6] :: os) (Ro.sl (Kd.int .u8) a8 a5 a1 :: Ro.sl (Kd.int .u8) a8 a5 a1 :: rs) := hS.re [0] [] rfl (sub_cons 0 rfl sub_self)
   obtain ⟨d4, d5, e4, H⟩ := b2_out H
   refine EL.of (EO.callD 72 [.pointer (some ⟨a2, 0, none⟩), .int .i64 21] _ 66 (by kernel_rfl) (by kernel_rfl) (by kernel_rfl) (confidantref1_Reader_fail.calls e4 hS) ?_)
   rintro v w ⟨d8, e1, rfl, hS⟩
   refine EL.done (by kernel_rfl) ?_
   refine EQ.code ?_
   refine EW.seq (x := Cd62.r.r.r.r.r.l) (y := Cd62.r.r.r.r.r.r) (by kernel_rfl) ?_
   refine EW.region (id := 19) (ops := Cd62.r.r.r.r.r.l.ops) (by kernel_rfl) ?_
   refine EL.quick 1 [4] [(4, .int .u64 0)] (by kernel_rfl) ?_
   refine EL.done (by kernel_rfl) ?_
   refine EQ.code ?_
   refine EW.ret (by kernel_rfl) ?_
   have hS := St.fr hS 1 rfl
   simp only [Option.some.injEq, Prod.mk.injEq] at H
   obtain ⟨rfl, rfl, rfl⟩ := H
   exact EQ.leave (.int .u64 0) (by kernel_rfl) ⟨_, rfl, d8, e1, rfl, (hS.re [0] [] rfl (sub_cons 0 rfl (sub_tail (sub_tail (sub_self)))))⟩
 ·rw [if_neg c3] at H
  refine EW.seq (x := Cd62.r.l.r.l.l) (y := Cd62.r.l.r.l.r) (by kernel_rfl) ?_
  refine EW.region (id := 2) (ops := Cd62.r.l.r.l.l.ops) (by kernel_rfl) ?_
  refine EL.quick 1 [4] [(4, .int .u64 0)] (by kernel_rfl) ?_
  refine EL.done (by kernel_rfl) ?_
  refine EQ.code ?_
  refine EW.ret (by kernel_rfl) ?_
  refine EQ.ret ?_
  simp only [Option.some.injEq, Prod.mk.injEq] at H
  obtain ⟨rfl, rfl, rfl⟩ := H
  exact EQ.leave (.int .u64 0) (by kernel_rfl) ⟨_, rfl, a8, a5, rfl, (hS.re [0] [] rfl (sub_cons 0 rfl (sub_self)))⟩

/-! ### (*confidant/confidantref1.Reader).Word: function 63 -/
def confidantref1_Reader_Word.f (K : Nat) (a0 : List Int) (a4 : Int) : Option (List Int × Int × Int) := b3 (confidantref1_Reader_Num.f K a0 a4 4294967295) fun (a9 : List Int) (b0 : Int) (a5 : Int) => (some (a9, b0, IntKind.i32.wrap (IntKind.u32.wrap a5)))
set_option maxRecDepth 100000 in
theorem confidantref1_Reader_Word.calls {K : Nat} {a0 : List Int} {a4 : Int} {a1 : Nat} {a2 : Option Addr} {a3 : Nat} {a6 : List Int} {b1 : Int} {b2 : Int} {B w : World} {os : List Ass} {rs : List Ro} (H : confidantref1_Reader_Word.f K a0 a4 = some (a6, b1, b2)) (hS : St B w (Ass.box 127 a1 [.slice a2 a0.length a3, .int .i64 a4] :: os) (Ro.sl (Kd.int .u8) a2 a3 a0 :: rs)) :
  Calls Try.prog 63 [.pointer (some ⟨a1, 0, none⟩)].toArray w (fun en w' => ∃ v, en = .returned v ∧ ∃ a7 : Option Addr, ∃ a8 : Nat, v = .int .i32 b2 ∧ St B w' (Ass.box 127 a1 [.slice a7 a6.length a8, .int .i64 b1] :: os) (Ro.sl (Kd.int .u8) a7 a8 a6 :: Ro.sl (Kd.int .u8) a2 a3 a0 :: rs)) := by
 unfold confidantref1_Reader_Word.f at H
 refine calls_of_EW (args := [.pointer (some ⟨a1, 0, none⟩)]) (c := Cd63) 7 Try.func63 (by kernel_rfl) (by kernel_rfl) (by kernel_rfl) ?_
 refine EW.seq (x := Cd63.l) (y := Cd63.r) (by kernel_rfl) ?_
 refine EW.region (id := 0) (ops := Cd63.l.ops) (by kernel_rfl) ?_
 refine EL.quick 1 [0] [(0, .pointer (some ⟨a1, 0, none⟩))] (by kernel_rfl) ?_
 refine EL.done (by kernel_rfl) ?_
 refine EQ.code ?_
 refine EW.seq (x := Cd63.r.l) (y := Cd63.r.r) (by kernel_rfl) ?_
 refine EW.region (id := 1) (ops := Cd63.r.l.ops) (by kernel_rfl) ?_
 refine EL.quick 1 [3] [(3, .pointer (some ⟨a1, 0, none⟩))] (by kernel_rfl) ?_
 have hS : St B _ (Ass.box 127 a1 [.slice a2 a0.length a3, .int .i64 a4] :: os) (Ro.sl (Kd.int .u8) a2 a3 a0 :: Ro.sl (Kd.int .u8) a2 a3 a0 :: rs) := hS.re [0] [] rfl (sub_cons 0 rfl sub_self)
 obtain ⟨a9, b0, a5, b6, H⟩ := b3_out H
 refine EL.of (EO.callD 62 [.pointer (some ⟨a1, 0, none⟩), .int .u64 4294967295] _ 4 (by kernel_rfl) (by kernel_rfl) (by kernel_rfl) (confidantref1_Reader_Num.calls b6 hS) ?_)
 rintro v w ⟨b4, b5, rfl, hS⟩
 refine EL.quick 3 [2] [(2, .int .i32 (IntKind.i32.wrap (IntKind.u32.wrap a5)))] (by kernel_rfl) ?_
 refine EL.done (by kernel_rfl) ?_
 refine EQ.code ?_
 refine EW.ret (by kernel_rfl) ?_
 simp only [Option.some.injEq, Prod.mk.injEq] at H
 obtain ⟨rfl, rfl, rfl⟩ := H
 exact EQ.leave (.int .i32 (IntKind.i32.wrap (IntKind.u32.wrap a5))) (by kernel_rfl) ⟨_, rfl, b4, b5, rfl, (hS.re [0] [] rfl (sub_cons 0 rfl (sub_tail (sub_tail (sub_self)))))⟩

/-! ### confidant/confidantref21.AuditRead: function 40 -/
def confidantref21_AuditRead.l0 (K : Nat) (e3 : (List Int) → Int → (List S69) → Option (List S69 × Int)) (a4 : Int) : Nat → (List Int) → Int → (List S69) → Int → Option (List S69 × Int)
 | 0, _, _, _, _ => none
 | n + 1, b8, c4, a1, a5 => lt (fun (f4 : Bool) => (if f4 = true then (b3 (confidantref1_Reader_Num.f K b8 c4 9223372036854775807) fun (c7 : List Int) (g6 : Int) (b5 : Int) => (b3 (confidantref1_Reader_Num.f K c7 g6 9223372036854775807) fun (d2 : List Int) (g7 : Int) (b6 : Int) => (b3 (confidantref1_Reader_Num.f K d2 g7 9223372036854775807) fun (d6 : List Int) (g8 : Int) (b7 : Int) => (b3 (confidantref1_Reader_Word.f K d6 g8) fun (e2 : List Int) (g9 : Int) (b9 : Int) => (b3 (confidantref1_Reader_Num.f K e2 g9 9223372036854775807) fun (f2 : List Int) (i0 : Int) (c2 : Int) => (b3 (confidantref1_Reader_Num.f K f2 i0 2147483647) fun (f7 : List Int) (f8 : Int) (c3 : Int) => (lt ([(⟨IntKind.i64.wrap b5, IntKind.i64.wrap b6, IntKind.i64.wrap b7, b9, IntKind.i64.wrap c2, IntKind.i32.wrap c3⟩ : S69)] : List S69) fun f1 => (if (a1.length + f1.length) * 48 ≤ 140737488355328 then (lt (a1 ++ f1) fun e1 => (confidantref21_AuditRead.l0 K e3 a4 n f7 f8 e1 (IntKind.u64.wrap (a5 + 1)))) else none)))))))) else (e3 b8 c4 a1))) fun g5 => (if a5 < a4 then (g5 (decide (c4 = 0))) else (g5 false))
def confidantref21_AuditRead.f (K : Nat) (a6 : List Int) : Option (List S69 × Int) := b3 (confidantref1_Reader_Num.f K a6 0 2147483648) fun (c6 : List Int) (i5 : Int) (a4 : Int) => (lt (fun (c5 : List Int) (d3 : Int) (a7 : List S69) => (lt (fun (f5 : Bool) => (if f5 = true then (some (([] : List S69), 20)) else (some (a7, 0)))) fun f6 => (if d3 = 0 then (if (c5.length : Int) > 0 then (f6 true) else (b1 (confidantref21_AuditRight.f K a7) fun (f9 : Bool) => (f6 (!(f9))))) else (f6 true)))) fun e3 => (confidantref21_AuditRead.l0 K e3 a4 K c6 i5 ([] : List S69) 0))
set_option maxRecDepth 100000 in
theorem confidantref21_AuditRead.calls {K : Nat} {a6 : List Int} {a8 : Option Addr} {a9 : Nat} {e4 : List S69} {f3 : Int} {B w : World} {os : List Ass} {rs : List Ro} (H : confidantref21_AuditRead.f K a6 = some (e4, f3)) (hS : St B w (os) (Ro.sl (Kd.int .u8) a8 a9 a6 :: rs)) :
  Calls Try.prog 40 [.slice a8 a6.length a9].toArray w (fun en w' => ∃ v, en = .returned v ∧ ∃ i6 : Option Addr, ∃ i7 : Nat, v = .tuple #[.slice i6 e4.length i7, .int .i64 f3] ∧ St B w' (os) (Ro.sl kS69 i6 i7 e4 :: Ro.sl (Kd.int .u8) a8 a9 a6 :: rs)) := by
 unfold confidantref21_AuditRead.f at H
 refine calls_of_EW (args := [.slice a8 a6.length a9]) (c := Cd40) 72 Try.func40 (by kernel_rfl) (by kernel_rfl) (by kernel_rfl) ?_
 refine EW.seq (x := Cd40.l) (y := Cd40.r) (by kernel_rfl) ?_
 refine EW.region (id := 0) (ops := Cd40.l.ops) (by kernel_rfl) ?_
 refine EL.quick 2 [0] [(0, .slice a8 a6.length a9)] (by kernel_rfl) ?_
 refine EL.done (by kernel_rfl) ?_
 refine EQ.code ?_
 refine EW.seq (x := Cd40.r.l) (y := Cd40.r.r) (by kernel_rfl) ?_
 refine EW.region (id := 1) (ops := Cd40.r.l.ops) (by kernel_rfl) ?_
 refine EL.quick 2 [10] [(10, .agg #[.slice a8 a6.length a9, .int .i64 0])] (by kernel_rfl) ?_
 refine EL.of (EO.box hS 127 (.agg #[.slice a8 a6.length a9, .int .i64 0]) [.slice a8 a6.length a9, .int .i64 0] 11 (by kernel_rfl) (by kernel_rfl) (by kernel_rfl) (by first | rfl | kernel_rfl) ?_)
 intro a0 w hS
 refine EL.quick 1 [4] [(4, .pointer (some ⟨a0, 0, none⟩))] (by kernel_rfl) ?_
 refine EL.done (by kernel_rfl) ?_
 refine EQ.code ?_
 refine EW.seq (x := Cd40.r.r.l) (y := Cd40.r.r.r) (by kernel_rfl) ?_
 refine EW.region (id := 2) (ops := Cd40.r.r.l.ops) (by kernel_rfl) ?_
 refine EL.quick 1 [4, 5] [(4, .pointer (some ⟨a0, 0, none⟩)), (5, .slice none ([] : List S69).length 0)] (by kernel_rfl) ?_
 refine EL.done (by kernel_rfl) ?_
 refine EQ.code ?_
 refine EW.seq (x := Cd40.r.r.r.l) (y := Cd40.r.r.r.r) (by kernel_rfl) ?_
 refine EW.region (id := 3) (ops := Cd40.r.r.r.l.ops) (by kernel_rfl) ?_
 refine EL.quick 1 [4, 5, 12] [(4, .pointer (some ⟨a0, 0, none⟩)), (5, .slice none ([] : List S69).length 0), (12, .pointer (some ⟨a0, 0, none⟩))] (by kernel_rfl) ?_
 have hS : St B _ (Ass.box 127 a0 [.slice a8 a6.length a9, .int .i64 0] :: os) (Ro.sl (Kd.int .u8) a8 a9 a6 :: Ro.sl (Kd.int .u8) a8 a9 a6 :: rs) := hS.re [0] [] rfl (sub_cons 0 rfl sub_self)
 obtain ⟨c6, i5, a4, j1, H⟩ := b3_out H
 refine EL.of (EO.callD 62 [.pointer (some ⟨a0, 0, none⟩), .int .u64 2147483648] _ 13 (by kernel_rfl) (by kernel_rfl) (by kernel_rfl) (confidantref1_Reader_Num.calls j1 hS) ?_)
 rintro v w ⟨c8, d0, rfl, hS⟩
 refine EL.quick 1 [4, 5, 6] [(4, .pointer (some ⟨a0, 0, none⟩)), (5, .slice none ([] : List S69).length 0), (6, .int .u64 a4)] (by kernel_rfl) ?_
 refine EL.done (by kernel_rfl) ?_
 refine EQ.code ?_
 obtain ⟨e3, j9, H⟩ := lt_out H
 refine EW.cut (x := Cd40.r.r.r.r.l) (y := Cd40.r.r.r.r.r) (fun a w => ∃ c5 : List Int, ∃ d3 : Int, ∃ a7 : List S69, ∃ d7 : Option Addr, ∃ d9 : Nat, ∃ b2 : Option Addr, ∃ b4 : Nat, Sat 72 [(4, .pointer (some ⟨a0, 0, none⟩)), (5, .slice b2 a7.length b4)] a ∧ St B w (Ass.box 127 a0 [.slice d7 c5.length d9, .int .i64 d3] :: Ass.own 69 kS69 b2 b4 a7 :: os) (Ro.sl (Kd.int .u8) d7 d9 c5 :: Ro.sl (Kd.int .u8) c8 d0 c6 :: Ro.sl (Kd.int .u8) a8 a9 a6 :: Ro.sl (Kd.int .u8) a8 a9 a6 :: rs) ∧ e3 c5 d3 a7 = some (e4, f3)) (by kernel_rfl) ?_ (fun a w hI => ?_)
 ·refine EW.seq (x := Cd40.r.r.r.r.l.l) (y := Cd40.r.r.r.r.l.r) (by kernel_rfl) ?_
  refine EW.region (id := 4) (ops := Cd40.r.r.r.r.l.l.ops) (by kernel_rfl) ?_
  refine EL.quick 1 [4, 5, 6, 7] [(4, .pointer (some ⟨a0, 0, none⟩)), (5, .slice none ([] : List S69).length 0), (6, .int .u64 a4), (7, .int .u64 0)] (by kernel_rfl) ?_
  refine EL.done (by kernel_rfl) ?_
  refine EQ.code ?_
  refine EW.block (x := Cd40.r.r.r.r.l.r.l) (id := 0) (by kernel_rfl) ?_
  have hS := St.nilO hS 69 kS69
  refine EW.loop (x := Cd40.r.r.r.r.l.r.l.l) (fun n a w => ∃ b8 : List Int, ∃ c4 : Int, ∃ a1 : List S69, ∃ a5 : Int, ∃ c0 : Option Addr, ∃ c1 : Nat, ∃ a2 : Option Addr, ∃ a3 : Nat, Sat 72 [(4, .pointer (some ⟨a0, 0, none⟩)), (5, .slice a2 a1.length a3), (6, .int .u64 a4), (7, .int .u64 a5)] a ∧ St B w (Ass.box 127 a0 [.slice c0 b8.length c1, .int .i64 c4] :: Ass.own 69 kS69 a2 a3 a1 :: os) (Ro.sl (Kd.int .u8) c0 c1 b8 :: Ro.sl (Kd.int .u8) c8 d0 c6 :: Ro.sl (Kd.int .u8) a8 a9 a6 :: Ro.sl (Kd.int .u8) a8 a9 a6 :: rs) ∧ confidantref21_AuditRead.l0 K e3 a4 n b8 c4 a1 a5 = some (e4, f3)) K (by kernel_rfl) ?_ (fun n a w hI => ?_)
  ·refine EQ.keep [4, 5, 6, 7] [(4, .pointer (some ⟨a0, 0, none⟩)), (5, .slice none ([] : List S69).length 0), (6, .int .u64 a4), (7, .int .u64 0)] (by kernel_rfl) ?_
   exact fun a ha => ⟨c6, i5, ([] : List S69), 0, c8, d0, none, 0, ha, (hS.re [0, 1] [] rfl (sub_cons 0 rfl (sub_cons 0 rfl (sub_cons 1 rfl (sub_cons 1 rfl (sub_tail (sub_tail (sub_tail (sub_self))))))))), H⟩
  ·obtain ⟨b8, c4, a1, a5, c0, c1, a2, a3, ha, hS, H⟩ := hI
   obtain _ | n := n
   ·simp [confidantref21_AuditRead.l0] at H
   rw [confidantref21_AuditRead.l0.eq_2] at H
   refine EW.at ?_ a ha
   clear ha a
   refine EW.seq (x := Cd40.r.r.r.r.l.r.l.l.l) (y := Cd40.r.r.r.r.l.r.l.l.r) (by kernel_rfl) ?_
   obtain ⟨g5, m0, H⟩ := lt_out H
   refine EW.cut (x := Cd40.r.r.r.r.l.r.l.l.l.l) (y := Cd40.r.r.r.r.l.r.l.l.l.r) (fun a w => ∃ f4 : Bool, Sat 72 [(4, .pointer (some ⟨a0, 0, none⟩)), (5, .slice a2 a1.length a3), (6, .int .u64 a4), (7, .int .u64 a5), (23, .bool (f4))] a ∧ St B w (Ass.box 127 a0 [.slice c0 b8.length c1, .int .i64 c4] :: Ass.own 69 kS69 a2 a3 a1 :: os) (Ro.sl (Kd.int .u8) c0 c1 b8 :: Ro.sl (Kd.int .u8) c8 d0 c6 :: Ro.sl (Kd.int .u8) a8 a9 a6 :: Ro.sl (Kd.int .u8) a8 a9 a6 :: rs) ∧ g5 f4 = some (e4, f3)) (by kernel_rfl) ?_ (fun a w hI => ?_)
   ·refine EW.region (id := 5) (ops := Cd40.r.r.r.r.l.r.l.l.l.l.ops) (by kernel_rfl) ?_
    refine EL.quick 4 [4, 5, 6, 7, 17] [(4, .pointer (some ⟨a0, 0, none⟩)), (5, .slice a2 a1.length a3), (6, .int .u64 a4), (7, .int .u64 a5), (17, .bool (decide (a5 < a4)))] (by kernel_rfl) ?_
    by_cases g2 : a5 < a4
    ·rw [if_pos g2] at H
     refine EL.keep [4, 5, 6, 7, 17] [(4, .pointer (some ⟨a0, 0, none⟩)), (5, .slice a2 a1.length a3), (6, .int .u64 a4), (7, .int .u64 a5), (17, .bool (decide (a5 < a4)))] (by kernel_rfl) ?_
     refine EL.as' [(4, .pointer (some ⟨a0, 0, none⟩)), (5, .slice a2 a1.length a3), (6, .int .u64 a4), (7, .int .u64 a5), (17, .bool (true))] (by simp only [dec_t g2, Bool.not_true, Bool.not_false]) ?_
     refine EL.quick 3 [4, 5, 6, 7, 17, 18, 19, 20] [(4, .pointer (some ⟨a0, 0, none⟩)), (5, .slice a2 a1.length a3), (6, .int .u64 a4), (7, .int .u64 a5), (17, .bool (true)), (18, .pointer (some ⟨a0, 0, none⟩)), (19, .pointer (some ⟨a0, 0, none⟩)), (20, .pointer (some ⟨a0, 1, none⟩))] (by kernel_rfl) ?_
     refine EL.of (EO.Y (YO.loadBox hS 0 rfl 3 1 1 (.int .i64 c4) 21 (by kernel_rfl) (by kernel_rfl) (by kernel_rfl) (by kernel_rfl)) ?_)
     refine EL.quick 2 [4, 5, 6, 7, 18, 19, 20, 21, 22, 23] [(4, .pointer (some ⟨a0, 0, none⟩)), (5, .slice a2 a1.length a3), (6, .int .u64 a4), (7, .int .u64 a5), (18, .pointer (some ⟨a0, 0, none⟩)), (19, .pointer (some ⟨a0, 0, none⟩)), (20, .pointer (some ⟨a0, 1, none⟩)), (21, .int .i64 c4), (22, .bool (decide (c4 = 0))), (23, .bool (decide (c4 = 0)))] (by kernel_rfl) ?_
     refine EL.done (by kernel_rfl) ?_
     refine EQ.to ?_
     refine EQ.keep [4, 5, 6, 7, 23] [(4, .pointer (some ⟨a0, 0, none⟩)), (5, .slice a2 a1.length a3), (6, .int .u64 a4), (7, .int .u64 a5), (23, .bool (decide (c4 = 0)))] (by kernel_rfl) ?_
     exact fun a ha => ⟨decide (c4 = 0), ha, (hS.re [1, 1] [] rfl (sub_cons 0 rfl (sub_cons 1 rfl (sub_cons 2 rfl (sub_cons 2 rfl (sub_tail (sub_tail (sub_tail (sub_tail (sub_self)))))))))), H⟩
    ·rw [if_neg g2] at H
     refine EL.keep [4, 5, 6, 7, 17] [(4, .pointer (some ⟨a0, 0, none⟩)), (5, .slice a2 a1.length a3), (6, .int .u64 a4), (7, .int .u64 a5), (17, .bool (decide (a5 < a4)))] (by kernel_rfl) ?_
     refine EL.as' [(4, .pointer (some ⟨a0, 0, none⟩)), (5, .slice a2 a1.length a3), (6, .int .u64 a4), (7, .int .u64 a5), (17, .bool (false))] (by simp only [dec_f g2, Bool.not_true, Bool.not_false]) ?_
     refine EL.quick 6 [4, 5, 6, 7, 23] [(4, .pointer (some ⟨a0, 0, none⟩)), (5, .slice a2 a1.length a3), (6, .int .u64 a4), (7, .int .u64 a5), (23, .bool (false))] (by kernel_rfl) ?_
     refine EL.done (by kernel_rfl) ?_
     refine EQ.to ?_
     refine EQ.keep [4, 5, 6, 7, 23] [(4, .pointer (some ⟨a0, 0, none⟩)), (5, .slice a2 a1.length a3), (6, .int .u64 a4), (7, .int .u64 a5), (23, .bool (false))] (by kernel_rfl) ?_
     exact fun a ha => ⟨false, ha, (hS.re [1, 1] [] rfl (sub_cons 0 rfl (sub_cons 1 rfl (sub_cons 2 rfl (sub_cons 2 rfl (sub_tail (sub_tail (sub_tail (sub_tail (sub_self)))))))))), H⟩
   ·obtain ⟨f4, ha, hS, H⟩ := hI
    rw [m0] at H
    (try dsimp only at H)
    refine EW.at ?_ a ha
    clear ha a
    refine EW.condP' (o := (.tmp 23)) (x := Cd40.r.r.r.r.l.r.l.l.l.r.l) (y := Cd40.r.r.r.r.l.r.l.l.l.r.r) (f4) (by kernel_rfl) (by kernel_rfl) (fun i3 => ?_) (fun i3 => ?_)
    ·rw [if_pos i3] at H
     refine EW.skip (by kernel_rfl) ?_
     refine EQ.code ?_
     refine EW.seq (x := Cd40.r.r.r.r.l.r.l.l.r.l) (y := Cd40.r.r.r.r.l.r.l.l.r.r) (by kernel_rfl) ?_
     refine EW.block (x := Cd40.r.r.r.r.l.r.l.l.r.l.l) (id := 1) (by kernel_rfl) ?_
     refine EW.seq (x := Cd40.r.r.r.r.l.r.l.l.r.l.l.l) (y := Cd40.r.r.r.r.l.r.l.l.r.l.l.r) (by kernel_rfl) ?_
     refine EW.region (id := 7) (ops := Cd40.r.r.r.r.l.r.l.l.r.l.l.l.ops) (by kernel_rfl) ?_
     refine EL.of (EO.alloc hS 69 (.agg #[.int .i64 0, .int .i64 0, .int .i64 0, .int .i32 0, .int .i64 0, .int .i32 0]) [.int .i64 0, .int .i64 0, .int .i64 0, .int .i32 0, .int .i64 0, .int .i32 0] 8 (by kernel_rfl) (by kernel_rfl) (by kernel_rfl) (by kernel_rfl) (by first | rfl | kernel_rfl) ?_)
     intro b0 w hS
     refine EL.done (by kernel_rfl) ?_
     refine EQ.code ?_
     refine EW.seq (x := Cd40.r.r.r.r.l.r.l.l.r.l.l.r.l) (y := Cd40.r.r.r.r.l.r.l.l.r.l.l.r.r) (by kernel_rfl) ?_
     refine EW.region (id := 8) (ops := Cd40.r.r.r.r.l.r.l.l.r.l.l.r.l.ops) (by kernel_rfl) ?_
     refine EL.quick 1 [4, 5, 6, 7, 8, 26] [(4, .pointer (some ⟨a0, 0, none⟩)), (5, .slice a2 a1.length a3), (6, .int .u64 a4), (7, .int .u64 a5), (8, .pointer (some ⟨b0, 0, none⟩)), (26, .pointer (some ⟨a0, 0, none⟩))] (by kernel_rfl) ?_
     have hS : St B _ (Ass.box 127 a0 [.slice c0 b8.length c1, .int .i64 c4] :: Ass.box 69 b0 [.int .i64 0, .int .i64 0, .int .i64 0, .int .i32 0, .int .i64 0, .int .i32 0] :: Ass.own 69 kS69 a2 a3 a1 :: os) (Ro.sl (Kd.int .u8) c0 c1 b8 :: Ro.sl (Kd.int .u8) c0 c1 b8 :: Ro.sl (Kd.int .u8) c8 d0 c6 :: Ro.sl (Kd.int .u8) a8 a9 a6 :: Ro.sl (Kd.int .u8) a8 a9 a6 :: rs) := hS.re [1] [] rfl (sub_cons 0 rfl sub_self)
     obtain ⟨c7, g6, b5, j2, H⟩ := b3_out H
     refine EL.of (EO.callD 62 [.pointer (some ⟨a0, 0, none⟩), .int .u64 9223372036854775807] _ 27 (by kernel_rfl) (by kernel_rfl) (by kernel_rfl) (confidantref1_Reader_Num.calls j2 hS) ?_)
     rintro v w ⟨c9, d1, rfl, hS⟩
     refine EL.quick 2 [4, 5, 6, 7, 8, 28, 29] [(4, .pointer (some ⟨a0, 0, none⟩)), (5, .slice a2 a1.length a3), (6, .int .u64 a4), (7, .int .u64 a5), (8, .pointer (some ⟨b0, 0, none⟩)), (28, .int .i64 (IntKind.i64.wrap b5)), (29, .pointer (some ⟨b0, 0, none⟩))] (by kernel_rfl) ?_
     refine EL.of (EO.storeBox (os' := Ass.box 127 a0 [.slice c9 c7.length d1, .int .i64 g6] :: Ass.box 69 b0 [.int .i64 (IntKind.i64.wrap b5), .int .i64 0, .int .i64 0, .int .i32 0, .int .i64 0, .int .i32 0] :: Ass.own 69 kS69 a2 a3 a1 :: os) hS 1 rfl 3 0 (.int .i64 (IntKind.i64.wrap b5)) [.int .i64 (IntKind.i64.wrap b5), .int .i64 0, .int .i64 0, .int .i32 0, .int .i64 0, .int .i32 0] (by kernel_rfl) (by kernel_rfl) (by kernel_rfl) (by kernel_rfl) (by kernel_rfl) (by kernel_rfl) rfl rfl ?_)
     intro w hS
     refine EL.done (by kernel_rfl) ?_
     refine EQ.code ?_
     refine EW.seq (x := Cd40.r.r.r.r.l.r.l.l.r.l.l.r.r.l) (y := Cd40.r.r.r.r.l.r.l.l.r.l.l.r.r.r) (by kernel_rfl) ?_
     refine EW.region (id := 9) (ops := Cd40.r.r.r.r.l.r.l.l.r.l.l.r.r.l.ops) (by kernel_rfl) ?_
     refine EL.quick 1 [4, 5, 6, 7, 8, 30] [(4, .pointer (some ⟨a0, 0, none⟩)), (5, .slice a2 a1.length a3), (6, .int .u64 a4), (7, .int .u64 a5), (8, .pointer (some ⟨b0, 0, none⟩)), (30, .pointer (some ⟨a0, 0, none⟩))] (by kernel_rfl) ?_
     have hS : St B _ (Ass.box 127 a0 [.slice c9 c7.length d1, .int .i64 g6] :: Ass.box 69 b0 [.int .i64 (IntKind.i64.wrap b5), .int .i64 0, .int .i64 0, .int .i32 0, .int .i64 0, .int .i32 0] :: Ass.own 69 kS69 a2 a3 a1 :: os) (Ro.sl (Kd.int .u8) c9 d1 c7 :: Ro.sl (Kd.int .u8) c9 d1 c7 :: Ro.sl (Kd.int .u8) c0 c1 b8 :: Ro.sl (Kd.int .u8) c0 c1 b8 :: Ro.sl (Kd.int .u8) c8 d0 c6 :: Ro.sl (Kd.int .u8) a8 a9 a6 :: Ro.sl (Kd.int .u8) a8 a9 a6 :: rs) := hS.re [0] [] rfl (sub_cons 0 rfl sub_self)
     obtain ⟨d2, g7, b6, j3, H⟩ := b3_out H
     refine EL.of (EO.callD 62 [.pointer (some ⟨a0, 0, none⟩), .int .u64 9223372036854775807] _ 31 (by kernel_rfl) (by kernel_rfl) (by kernel_rfl) (confidantref1_Reader_Num.calls j3 hS) ?_)
     rintro v w ⟨d4, d5, rfl, hS⟩
     refine EL.quick 2 [4, 5, 6, 7, 8, 32, 33] [(4, .pointer (some ⟨a0, 0, none⟩)), (5, .slice a2 a1.length a3), (6, .int .u64 a4), (7, .int .u64 a5), (8, .pointer (some ⟨b0, 0, none⟩)), (32, .int .i64 (IntKind.i64.wrap b6)), (33, .pointer (some ⟨b0, 1, none⟩))] (by kernel_rfl) ?_
     refine EL.of (EO.storeBox (os' := Ass.box 127 a0 [.slice d4 d2.length d5, .int .i64 g7] :: Ass.box 69 b0 [.int .i64 (IntKind.i64.wrap b5), .int .i64 (IntKind.i64.wrap b6), .int .i64 0, .int .i32 0, .int .i64 0, .int .i32 0] :: Ass.own 69 kS69 a2 a3 a1 :: os) hS 1 rfl 3 1 (.int .i64 (IntKind.i64.wrap b6)) [.int .i64 (IntKind.i64.wrap b5), .int .i64 (IntKind.i64.wrap b6), .int .i64 0, .int .i32 0, .int .i64 0, .int .i32 0] (by kernel_rfl) (by kernel_rfl) (by kernel_rfl) (by kernel_rfl) (by kernel_rfl) (by kernel_rfl) rfl rfl ?_)
     intro w hS
     refine EL.done (by kernel_rfl) ?_
     refine EQ.code ?_
     refine EW.seq (x := Cd40.r.r.r.r.l.r.l.l.r.l.l.r.r.r.l) (y := Cd40.r.r.r.r.l.r.l.l.r.l.l.r.r.r.r) (by kernel_rfl) ?_
     refine EW.region (id := 10) (ops := Cd40.r.r.r.r.l.r.l.l.r.l.l.r.r.r.l.ops) (by kernel_rfl) ?_
     refine EL.quick 1 [4, 5, 6, 7, 8, 34] [(4, .pointer (some ⟨a0, 0, none⟩)), (5, .slice a2 a1.length a3), (6, .int .u64 a4), (7, .int .u64 a5), (8, .pointer (some ⟨b0, 0, none⟩)), (34, .pointer (some ⟨a0, 0, none⟩))] (by kernel_rfl) ?_
     have hS : St B _ (Ass.box 127 a0 [.slice d4 d2.length d5, .int .i64 g7] :: Ass.box 69 b0 [.int .i64 (IntKind.i64.wrap b5), .int .i64 (IntKind.i64.wrap b6), .int .i64 0, .int .i32 0, .int .i64 0, .int .i32 0] :: Ass.own 69 kS69 a2 a3 a1 :: os) (Ro.sl (Kd.int .u8) d4 d5 d2 :: Ro.sl (Kd.int .u8) d4 d5 d2 :: Ro.sl (Kd.int .u8) c9 d1 c7 :: Ro.sl (Kd.int .u8) c9 d1 c7 :: Ro.sl (Kd.int .u8) c0 c1 b8 :: Ro.sl (Kd.int .u8) c0 c1 b8 :: Ro.sl (Kd.int .u8) c8 d0 c6 :: Ro.sl (Kd.int .u8) a8 a9 a6 :: Ro.sl (Kd.int .u8) a8 a9 a6 :: rs) := hS.re [0] [] rfl (sub_cons 0 rfl sub_self)
     obtain ⟨d6, g8, b7, j4, H⟩ := b3_out H
     refine EL.of (EO.callD 62 [.pointer (some ⟨a0, 0, none⟩), .int .u64 9223372036854775807] _ 35 (by kernel_rfl) (by kernel_rfl) (by kernel_rfl) (confidantref1_Reader_Num.calls j4 hS) ?_)
     rintro v w ⟨d8, e0, rfl, hS⟩
     refine EL.quick 2 [4, 5, 6, 7, 8, 36, 37] [(4, .pointer (some ⟨a0, 0, none⟩)), (5, .slice a2 a1.length a3), (6, .int .u64 a4), (7, .int .u64 a5), (8, .pointer (some ⟨b0, 0, none⟩)), (36, .int .i64 (IntKind.i64.wrap b7)), (37, .pointer (some ⟨b0, 2, none⟩))] (by kernel_rfl) ?_
     refine EL.of (EO.storeBox (os' := Ass.box 127 a0 [.slice d8 d6.length e0, .int .i64 g8] :: Ass.box 69 b0 [.int .i64 (IntKind.i64.wrap b5), .int .i64 (IntKind.i64.wrap b6), .int .i64 (IntKind.i64.wrap b7), .int .i32 0, .int .i64 0, .int .i32 0] :: Ass.own 69 kS69 a2 a3 a1 :: os) hS 1 rfl 3 2 (.int .i64 (IntKind.i64.wrap b7)) [.int .i64 (IntKind.i64.wrap b5), .int .i64 (IntKind.i64.wrap b6), .int .i64 (IntKind.i64.wrap b7), .int .i32 0, .int .i64 0, .int .i32 0] (by kernel_rfl) (by kernel_rfl) (by kernel_rfl) (by kernel_rfl) (by kernel_rfl) (by kernel_rfl) rfl rfl ?_)
     intro w hS
     refine EL.done (by kernel_rfl) ?_
     refine EQ.code ?_
     refine EW.seq (x := Cd40.r.r.r.r.l.r.l.l.r.l.l.r.r.r.r.l) (y := Cd40.r.r.r.r.l.r.l.l.r.l.l.r.r.r.r.r) (by kernel_rfl) ?_
     refine EW.region (id := 11) (ops := Cd40.r.r.r.r.l.r.l.l.r.l.l.r.r.r.r.l.ops) (by kernel_rfl) ?_
     refine EL.quick 1 [4, 5, 6, 7, 8, 38] [(4, .pointer (some ⟨a0, 0, none⟩)), (5, .slice a2 a1.length a3), (6, .int .u64 a4), (7, .int .u64 a5), (8, .pointer (some ⟨b0, 0, none⟩)), (38, .pointer (some ⟨a0, 0, none⟩))] (by kernel_rfl) ?_
     have hS : St B _ (Ass.box 127 a0 [.slice d8 d6.length e0, .int .i64 g8] :: Ass.box 69 b0 [.int .i64 (IntKind.i64.wrap b5), .int .i64 (IntKind.i64.wrap b6), .int .i64 (IntKind.i64.wrap b7), .int .i32 0, .int .i64 0, .int .i32 0] :: Ass.own 69 kS69 a2 a3 a1 :: os) (Ro.sl (Kd.int .u8) d8 e0 d6 :: Ro.sl (Kd.int .u8) d8 e0 d6 :: Ro.sl (Kd.int .u8) d4 d5 d2 :: Ro.sl (Kd.int .u8) d4 d5 d2 :: Ro.sl (Kd.int .u8) c9 d1 c7 :: Ro.sl (Kd.int .u8) c9 d1 c7 :: Ro.sl (Kd.int .u8) c0 c1 b8 :: Ro.sl (Kd.int .u8) c0 c1 b8 :: Ro.sl (Kd.int .u8) c8 d0 c6 :: Ro.sl (Kd.int .u8) a8 a9 a6 :: Ro.sl (Kd.int .u8) a8 a9 a6 :: rs) := hS.re [0] [] rfl (sub_cons 0 rfl sub_self)
     obtain ⟨e2, g9, b9, j5, H⟩ := b3_out H
     refine EL.of (EO.callD 63 [.pointer (some ⟨a0, 0, none⟩)] _ 39 (by kernel_rfl) (by kernel_rfl) (by kernel_rfl) (confidantref1_Reader_Word.calls j5 hS) ?_)
     rintro v w ⟨e5, e8, rfl, hS⟩
     refine EL.quick 1 [4, 5, 6, 7, 8, 39, 40] [(4, .pointer (some ⟨a0, 0, none⟩)), (5, .slice a2 a1.length a3), (6, .int .u64 a4), (7, .int .u64 a5), (8, .pointer (some ⟨b0, 0, none⟩)), (39, .int .i32 b9), (40, .pointer (some ⟨b0, 3, none⟩))] (by kernel_rfl) ?_
     refine EL.of (EO.storeBox (os' := Ass.box 127 a0 [.slice e5 e2.length e8, .int .i64 g9] :: Ass.box 69 b0 [.int .i64 (IntKind.i64.wrap b5), .int .i64 (IntKind.i64.wrap b6), .int .i64 (IntKind.i64.wrap b7), .int .i32 b9, .int .i64 0, .int .i32 0] :: Ass.own 69 kS69 a2 a3 a1 :: os) hS 1 rfl 21 3 (.int .i32 b9) [.int .i64 (IntKind.i64.wrap b5), .int .i64 (IntKind.i64.wrap b6), .int .i64 (IntKind.i64.wrap b7), .int .i32 b9, .int .i64 0, .int .i32 0] (by kernel_rfl) (by kernel_rfl) (by kernel_rfl) (by kernel_rfl) (by kernel_rfl) (by kernel_rfl) rfl rfl ?_)
     intro w hS
     refine EL.done (by kernel_rfl) ?_
     refine EQ.code ?_
     refine EW.seq (x := Cd40.r.r.r.r.l.r.l.l.r.l.l.r.r.r.r.r.l) (y := Cd40.r.r.r.r.l.r.l.l.r.l.l.r.r.r.r.r.r) (by kernel_rfl) ?_
     refine EW.region (id := 12) (ops := Cd40.r.r.r.r.l.r.l.l.r.l.l.r.r.r.r.r.l.ops) (by kernel_rfl) ?_
     refine EL.quick 1 [4, 5, 6, 7, 8, 41] [(4, .pointer (some ⟨a0, 0, none⟩)), (5, .slice a2 a1.length a3), (6, .int .u64 a4), (7, .int .u64 a5), (8, .pointer (some ⟨b0, 0, none⟩)), (41, .pointer (some ⟨a0, 0, none⟩))] (by kernel_rfl) ?_
     have hS : St B _ (Ass.box 127 a0 [.slice e5 e2.length e8, .int .i64 g9] :: Ass.box 69 b0 [.int .i64 (IntKind.i64.wrap b5), .int .i64 (IntKind.i64.wrap b6), .int .i64 (IntKind.i64.wrap b7), .int .i32 b9, .int .i64 0, .int .i32 0] :: Ass.own 69 kS69 a2 a3 a1 :: os) (Ro.sl (Kd.int .u8) e5 e8 e2 :: Ro.sl (Kd.int .u8) e5 e8 e2 :: Ro.sl (Kd.int .u8) d8 e0 d6 :: Ro.sl (Kd.int .u8) d8 e0 d6 :: Ro.sl (Kd.int .u8) d4 d5 d2 :: Ro.sl (Kd.int .u8) d4 d5 d2 :: Ro.sl (Kd.int .u8) c9 d1 c7 :: Ro.sl (Kd.int .u8) c9 d1 c7 :: Ro.sl (Kd.int .u8) c0 c1 b8 :: Ro.sl (Kd.int .u8) c0 c1 b8 :: Ro.sl (Kd.int .u8) c8 d0 c6 :: Ro.sl (Kd.int .u8) a8 a9 a6 :: Ro.sl (Kd.int .u8) a8 a9 a6 :: rs) := hS.re [0] [] rfl (sub_cons 0 rfl sub_self)
     obtain ⟨f2, i0, c2, j6, H⟩ := b3_out H
     refine EL.of (EO.callD 62 [.pointer (some ⟨a0, 0, none⟩), .int .u64 9223372036854775807] _ 42 (by kernel_rfl) (by kernel_rfl) (by kernel_rfl) (confidantref1_Reader_Num.calls j6 hS) ?_)
     rintro v w ⟨g0, g1, rfl, hS⟩
     refine EL.quick 2 [4, 5, 6, 7, 8, 43, 44] [(4, .pointer (some ⟨a0, 0, none⟩)), (5, .slice a2 a1.length a3), (6, .int .u64 a4), (7, .int .u64 a5), (8, .pointer (some ⟨b0, 0, none⟩)), (43, .int .i64 (IntKind.i64.wrap c2)), (44, .pointer (some ⟨b0, 4, none⟩))] (by kernel_rfl) ?_
     refine EL.of (EO.storeBox (os' := Ass.box 127 a0 [.slice g0 f2.length g1, .int .i64 i0] :: Ass.box 69 b0 [.int .i64 (IntKind.i64.wrap b5), .int .i64 (IntKind.i64.wrap b6), .int .i64 (IntKind.i64.wrap b7), .int .i32 b9, .int .i64 (IntKind.i64.wrap c2), .int .i32 0] :: Ass.own 69 kS69 a2 a3 a1 :: os) hS 1 rfl 3 4 (.int .i64 (IntKind.i64.wrap c2)) [.int .i64 (IntKind.i64.wrap b5), .int .i64 (IntKind.i64.wrap b6), .int .i64 (IntKind.i64.wrap b7), .int .i32 b9, .int .i64 (IntKind.i64.wrap c2), .int .i32 0] (by kernel_rfl) (by kernel_rfl) (by kernel_rfl) (by kernel_rfl) (by kernel_rfl) (by kernel_rfl) rfl rfl ?_)
     intro w hS
     refine EL.done (by kernel_rfl) ?_
     refine EQ.code ?_
     refine EW.seq (x := Cd40.r.r.r.r.l.r.l.l.r.l.l.r.r.r.r.r.r.l) (y := Cd40.r.r.r.r.l.r.l.l.r.l.l.r.r.r.r.r.r.r) (by kernel_rfl) ?_
     refine EW.region (id := 13) (ops := Cd40.r.r.r.r.l.r.l.l.r.l.l.r.r.r.r.r.r.l.ops) (by kernel_rfl) ?_
     refine EL.quick 1 [4, 5, 6, 7, 8, 45] [(4, .pointer (some ⟨a0, 0, none⟩)), (5, .slice a2 a1.length a3), (6, .int .u64 a4), (7, .int .u64 a5), (8, .pointer (some ⟨b0, 0, none⟩)), (45, .pointer (some ⟨a0, 0, none⟩))] (by kernel_rfl) ?_
     have hS : St B _ (Ass.box 127 a0 [.slice g0 f2.length g1, .int .i64 i0] :: Ass.box 69 b0 [.int .i64 (IntKind.i64.wrap b5), .int .i64 (IntKind.i64.wrap b6), .int .i64 (IntKind.i64.wrap b7), .int .i32 b9, .int .i64 (IntKind.i64.wrap c2), .int .i32 0] :: Ass.own 69 kS69 a2 a3 a1 :: os) (Ro.sl (Kd.int .u8) g0 g1 f2 :: Ro.sl (Kd.int .u8) g0 g1 f2 :: Ro.sl (Kd.int .u8) e5 e8 e2 :: Ro.sl (Kd.int .u8) e5 e8 e2 :: Ro.sl (Kd.int .u8) d8 e0 d6 :: Ro.sl (Kd.int .u8) d8 e0 d6 :: Ro.sl (Kd.int .u8) d4 d5 d2 :: Ro.sl (Kd.int .u8) d4 d5 d2 :: Ro.sl (Kd.int .u8) c9 d1 c7 :: Ro.sl (Kd.int .u8) c9 d1 c7 :: Ro.sl (Kd.int .u8) c0 c1 b8 :: Ro.sl (Kd.int .u8) c0 c1 b8 :: Ro.sl (Kd.int .u8) c8 d0 c6 :: Ro.sl (Kd.int .u8) a8 a9 a6 :: Ro.sl (Kd.int .u8) a8 a9 a6 :: rs) := hS.re [0] [] rfl (sub_cons 0 rfl sub_self)
     obtain ⟨f7, f8, c3, j7, H⟩ := b3_out H
     refine EL.of (EO.callD 62 [.pointer (some ⟨a0, 0, none⟩), .int .u64 2147483647] _ 46 (by kernel_rfl) (by kernel_rfl) (by kernel_rfl) (confidantref1_Reader_Num.calls j7 hS) ?_)
     rintro v w ⟨i1, i2, rfl, hS⟩
     refine EL.quick 2 [4, 5, 6, 7, 8, 47, 48] [(4, .pointer (some ⟨a0, 0, none⟩)), (5, .slice a2 a1.length a3), (6, .int .u64 a4), (7, .int .u64 a5), (8, .pointer (some ⟨b0, 0, none⟩)), (47, .int .i32 (IntKind.i32.wrap c3)), (48, .pointer (some ⟨b0, 5, none⟩))] (by kernel_rfl) ?_
     refine EL.of (EO.storeBox (os' := Ass.box 127 a0 [.slice i1 f7.length i2, .int .i64 f8] :: Ass.box 69 b0 [.int .i64 (IntKind.i64.wrap b5), .int .i64 (IntKind.i64.wrap b6), .int .i64 (IntKind.i64.wrap b7), .int .i32 b9, .int .i64 (IntKind.i64.wrap c2), .int .i32 (IntKind.i32.wrap c3)] :: Ass.own 69 kS69 a2 a3 a1 :: os) hS 1 rfl 21 5 (.int .i32 (IntKind.i32.wrap c3)) [.int .i64 (IntKind.i64.wrap b5), .int .i64 (IntKind.i64.wrap b6), .int .i64 (IntKind.i64.wrap b7), .int .i32 b9, .int .i64 (IntKind.i64.wrap c2), .int .i32 (IntKind.i32.wrap c3)] (by kernel_rfl) (by kernel_rfl) (by kernel_rfl) (by kernel_rfl) (by kernel_rfl) (by kernel_rfl) rfl rfl ?_)
     intro w hS
     refine EL.done (by kernel_rfl) ?_
     refine EQ.code ?_
     refine EW.region (id := 14) (ops := Cd40.r.r.r.r.l.r.l.l.r.l.l.r.r.r.r.r.r.r.ops) (by kernel_rfl) ?_
     refine EL.quick 1 [4, 6, 7, 8, 49] [(4, .pointer (some ⟨a0, 0, none⟩)), (6, .int .u64 a4), (7, .int .u64 a5), (8, .pointer (some ⟨b0, 0, none⟩)), (49, .slice a2 a1.length a3)] (by kernel_rfl) ?_
     refine EL.of (EO.Y (YO.loadBox hS 1 rfl 69 0 6 (.agg #[.int .i64 (IntKind.i64.wrap b5), .int .i64 (IntKind.i64.wrap b6), .int .i64 (IntKind.i64.wrap b7), .int .i32 b9, .int .i64 (IntKind.i64.wrap c2), .int .i32 (IntKind.i32.wrap c3)]) 50 (by kernel_rfl) (by kernel_rfl) (by kernel_rfl) (by kernel_rfl)) ?_)
     obtain ⟨f1, i9, H⟩ := lt_out H
     refine EL.of (EO.lit hS kS69 69 64 1 #[(0, .agg #[.int .i64 (IntKind.i64.wrap b5), .int .i64 (IntKind.i64.wrap b6), .int .i64 (IntKind.i64.wrap b7), .int .i32 b9, .int .i64 (IntKind.i64.wrap c2), .int .i32 (IntKind.i32.wrap c3)])] [.int .i64 (IntKind.i64.wrap b5), .int .i64 (IntKind.i64.wrap b6), .int .i64 (IntKind.i64.wrap b7), .int .i32 b9, .int .i64 (IntKind.i64.wrap c2), .int .i32 (IntKind.i32.wrap c3)] f1 51 (by kernel_rfl) (by kernel_rfl) (by kernel_rfl) (fun _ => (by kernel_rfl)) (by rw [i9]; rfl) (by kernel_rfl) (fun w G hr => (by rw [i9]; exact ⟨[.int .i64 (IntKind.i64.wrap b5), .int .i64 (IntKind.i64.wrap b6), .int .i64 (IntKind.i64.wrap b7), .int .i32 b9, .int .i64 (IntKind.i64.wrap c2), .int .i32 (IntKind.i32.wrap c3)], [], rfl, ⟨[.int .i64 (IntKind.i64.wrap b5)], [.int .i64 (IntKind.i64.wrap b6), .int .i64 (IntKind.i64.wrap b7), .int .i32 b9, .int .i64 (IntKind.i64.wrap c2), .int .i32 (IntKind.i32.wrap c3)], rfl, rfl, ⟨[.int .i64 (IntKind.i64.wrap b6)], [.int .i64 (IntKind.i64.wrap b7), .int .i32 b9, .int .i64 (IntKind.i64.wrap c2), .int .i32 (IntKind.i32.wrap c3)], rfl, rfl, ⟨[.int .i64 (IntKind.i64.wrap b7)], [.int .i32 b9, .int .i64 (IntKind.i64.wrap c2), .int .i32 (IntKind.i32.wrap c3)], rfl, rfl, ⟨[.int .i32 b9], [.int .i64 (IntKind.i64.wrap c2), .int .i32 (IntKind.i32.wrap c3)], rfl, rfl, ⟨[.int .i64 (IntKind.i64.wrap c2)], [.int .i32 (IntKind.i32.wrap c3)], rfl, rfl, ⟨[.int .i32 (IntKind.i32.wrap c3)], [], rfl, rfl, rfl⟩⟩⟩⟩⟩⟩, rfl⟩)) ?_)
     intro i8 w hS
     obtain ⟨j0, H⟩ := ite_in H
     obtain ⟨e1, m2, H⟩ := lt_out H
     refine EL.of (EO.append hS 64 64 69 48 3 kS69 a2 a3 a1 rfl (some ⟨i8, 0, none⟩) 1 f1 (Rd.own 0 69 rfl) e1 m2 (fun e6 e9 => Ass.own 69 kS69 (some ⟨i8, 0, none⟩) 1 f1 :: Ass.box 127 a0 [.slice i1 f7.length i2, .int .i64 f8] :: Ass.box 69 b0 [.int .i64 (IntKind.i64.wrap b5), .int .i64 (IntKind.i64.wrap b6), .int .i64 (IntKind.i64.wrap b7), .int .i32 b9, .int .i64 (IntKind.i64.wrap c2), .int .i32 (IntKind.i32.wrap c3)] :: Ass.own 69 kS69 e6 e9 e1 :: os) 52 (by kernel_rfl) (by kernel_rfl) (by kernel_rfl) (by kernel_rfl) j0 (fun _ _ => rfl) ?_)
     intro e6 e9 w hS
     refine EL.quick 1 [4, 5, 6, 7] [(4, .pointer (some ⟨a0, 0, none⟩)), (5, .slice e6 e1.length e9), (6, .int .u64 a4), (7, .int .u64 a5)] (by kernel_rfl) ?_
     refine EL.done (by kernel_rfl) ?_
     refine EQ.pop ?_
     refine EQ.code ?_
     refine EW.region (id := 6) (ops := Cd40.r.r.r.r.l.r.l.l.r.r.ops) (by kernel_rfl) ?_
     refine EL.quick 3 [4, 5, 6, 7] [(4, .pointer (some ⟨a0, 0, none⟩)), (5, .slice e6 e1.length e9), (6, .int .u64 a4), (7, .int .u64 (IntKind.u64.wrap (a5 + 1)))] (by kernel_rfl) ?_
     refine EL.done (by kernel_rfl) ?_
     refine EQ.to ?_
     refine EQ.keep [4, 5, 6, 7] [(4, .pointer (some ⟨a0, 0, none⟩)), (5, .slice e6 e1.length e9), (6, .int .u64 a4), (7, .int .u64 (IntKind.u64.wrap (a5 + 1)))] (by kernel_rfl) ?_
     exact fun a ha => ⟨n, Nat.lt_succ_self n, f7, f8, e1, IntKind.u64.wrap (a5 + 1), i1, i2, e6, e9, ha, (hS.re [3, 2] [2, 2] rfl (sub_cons 0 rfl (sub_cons 13 rfl (sub_cons 14 rfl (sub_cons 14 rfl (sub_tail (sub_tail (sub_tail (sub_tail (sub_tail (sub_tail (sub_tail (sub_tail (sub_tail (sub_tail (sub_tail (sub_tail (sub_tail (sub_tail (sub_tail (sub_tail (sub_self)))))))))))))))))))))), H⟩
    ·rw [if_neg i3] at H
     refine EW.exit (id := 0) (by kernel_rfl) ?_
     refine EQ.exitCode ?_
     refine EQ.exitTo ?_
     refine EQ.exitHere ?_
     refine EQ.to ?_
     refine EQ.keep [4, 5] [(4, .pointer (some ⟨a0, 0, none⟩)), (5, .slice a2 a1.length a3)] (by kernel_rfl) ?_
     exact fun a ha => ⟨b8, c4, a1, c0, c1, a2, a3, ha, (hS.re [1, 1] [] rfl (sub_cons 0 rfl (sub_cons 1 rfl (sub_cons 2 rfl (sub_cons 2 rfl (sub_tail (sub_tail (sub_tail (sub_tail (sub_self)))))))))), H⟩
 ·obtain ⟨c5, d3, a7, d7, d9, b2, b4, ha, hS, H⟩ := hI
  rw [j9] at H
  (try dsimp only at H)
  refine EW.at ?_ a ha
  clear ha a
  refine EW.seq (x := Cd40.r.r.r.r.r.l) (y := Cd40.r.r.r.r.r.r) (by kernel_rfl) ?_
  obtain ⟨f6, m1, H⟩ := lt_out H
  refine EW.cut (x := Cd40.r.r.r.r.r.l.l) (y := Cd40.r.r.r.r.r.l.r) (fun a w => ∃ f5 : Bool, ∃ e7 : Option Addr, ∃ f0 : Nat, Sat 72 [(5, .slice e7 a7.length f0), (70, .bool (f5))] a ∧ St B w (Ass.box 127 a0 [.slice d7 c5.length d9, .int .i64 d3] :: os) (Ro.sl kS69 e7 f0 a7 :: Ro.sl (Kd.int .u8) d7 d9 c5 :: Ro.sl (Kd.int .u8) c8 d0 c6 :: Ro.sl (Kd.int .u8) a8 a9 a6 :: Ro.sl (Kd.int .u8) a8 a9 a6 :: rs) ∧ f6 f5 = some (e4, f3)) (by kernel_rfl) ?_ (fun a w hI => ?_)
  ·refine EW.region (id := 15) (ops := Cd40.r.r.r.r.r.l.l.ops) (by kernel_rfl) ?_
   refine EL.quick 3 [4, 5, 55] [(4, .pointer (some ⟨a0, 0, none⟩)), (5, .slice b2 a7.length b4), (55, .pointer (some ⟨a0, 1, none⟩))] (by kernel_rfl) ?_
   refine EL.of (EO.Y (YO.loadBox hS 0 rfl 3 1 1 (.int .i64 d3) 56 (by kernel_rfl) (by kernel_rfl) (by kernel_rfl) (by kernel_rfl)) ?_)
   refine EL.quick 2 [4, 5, 58] [(4, .pointer (some ⟨a0, 0, none⟩)), (5, .slice b2 a7.length b4), (58, .bool (!(decide (d3 = 0))))] (by kernel_rfl) ?_
   by_cases g3 : d3 = 0
   ·rw [if_pos g3] at H
    refine EL.keep [4, 5, 58] [(4, .pointer (some ⟨a0, 0, none⟩)), (5, .slice b2 a7.length b4), (58, .bool (!(decide (d3 = 0))))] (by kernel_rfl) ?_
    refine EL.as' [(4, .pointer (some ⟨a0, 0, none⟩)), (5, .slice b2 a7.length b4), (58, .bool (false))] (by simp only [dec_t g3, Bool.not_true, Bool.not_false]) ?_
    refine EL.quick 3 [5, 58, 61] [(5, .slice b2 a7.length b4), (58, .bool (false)), (61, .pointer (some ⟨a0, 0, none⟩))] (by kernel_rfl) ?_
    refine EL.of (EO.Y (YO.loadBox hS 0 rfl 75 0 1 (.slice d7 c5.length d9) 62 (by kernel_rfl) (by kernel_rfl) (by kernel_rfl) (by kernel_rfl)) ?_)
    refine EL.quick 4 [5, 66] [(5, .slice b2 a7.length b4), (66, .bool (decide ((c5.length : Int) > 0)))] (by kernel_rfl) ?_
    by_cases g4 : (c5.length : Int) > 0
    ·rw [if_pos g4] at H
     refine EL.keep [5, 66] [(5, .slice b2 a7.length b4), (66, .bool (decide ((c5.length : Int) > 0)))] (by kernel_rfl) ?_
     refine EL.as' [(5, .slice b2 a7.length b4), (66, .bool (true))] (by simp only [dec_t g4, Bool.not_true, Bool.not_false]) ?_
     refine EL.quick 4 [5, 70] [(5, .slice b2 a7.length b4), (70, .bool (true))] (by kernel_rfl) ?_
     refine EL.done (by kernel_rfl) ?_
     refine EQ.to ?_
     have hS := St.fr hS 1 rfl
     refine EQ.keep [5, 70] [(5, .slice b2 a7.length b4), (70, .bool (true))] (by kernel_rfl) ?_
     exact fun a ha => ⟨true, b2, b4, ha, (hS.re [0] [] rfl (sub_cons 0 rfl (sub_cons 1 rfl (sub_cons 2 rfl (sub_cons 3 rfl (sub_cons 3 rfl (sub_tail (sub_tail (sub_tail (sub_tail (sub_tail (sub_self)))))))))))), H⟩
    ·rw [if_neg g4] at H
     refine EL.keep [5, 66] [(5, .slice b2 a7.length b4), (66, .bool (decide ((c5.length : Int) > 0)))] (by kernel_rfl) ?_
     refine EL.as' [(5, .slice b2 a7.length b4), (66, .bool (false))] (by simp only [dec_f g4, Bool.not_true, Bool.not_false]) ?_
     refine EL.quick 1 [5, 66, 67] [(5, .slice b2 a7.length b4), (66, .bool (false)), (67, .slice b2 a7.length b4)] (by kernel_rfl) ?_
     have hS := St.fr hS 1 rfl
     have hS : St B _ (Ass.box 127 a0 [.slice d7 c5.length d9, .int .i64 d3] :: os) (Ro.sl kS69 b2 b4 a7 :: Ro.sl kS69 b2 b4 a7 :: Ro.sl (Kd.int .u8) d7 d9 c5 :: Ro.sl (Kd.int .u8) c8 d0 c6 :: Ro.sl (Kd.int .u8) a8 a9 a6 :: Ro.sl (Kd.int .u8) a8 a9 a6 :: rs) := hS.re [] [] rfl (sub_cons 0 rfl sub_self)
     obtain ⟨f9, j8, H⟩ := b1_out H
     refine EL.of (EO.callD 32 [.slice b2 a7.length b4] _ 68 (by kernel_rfl) (by kernel_rfl) (by kernel_rfl) (confidantref21_AuditRight.calls j8 hS) ?_)
     rintro v w ⟨rfl, hS⟩
     refine EL.quick 2 [5, 70] [(5, .slice b2 a7.length b4), (70, .bool (!(f9)))] (by kernel_rfl) ?_
     refine EL.done (by kernel_rfl) ?_
     refine EQ.to ?_
     refine EQ.keep [5, 70] [(5, .slice b2 a7.length b4), (70, .bool (!(f9)))] (by kernel_rfl) ?_
     exact fun a ha => ⟨!(f9), b2, b4, ha, (hS.re [0] [] rfl (sub_cons 0 rfl (sub_cons 2 rfl (sub_cons 3 rfl (sub_cons 4 rfl (sub_cons 4 rfl (sub_tail (sub_tail (sub_tail (sub_tail (sub_tail (sub_tail (sub_self))))))))))))), H⟩
   ·rw [if_neg g3] at H
    refine EL.keep [4, 5, 58] [(4, .pointer (some ⟨a0, 0, none⟩)), (5, .slice b2 a7.length b4), (58, .bool (!(decide (d3 = 0))))] (by kernel_rfl) ?_
    refine EL.as' [(4, .pointer (some ⟨a0, 0, none⟩)), (5, .slice b2 a7.length b4), (58, .bool (true))] (by simp only [dec_f g3, Bool.not_true, Bool.not_false]) ?_
    refine EL.quick 12 [5, 70] [(5, .slice b2 a7.length b4), (70, .bool (true))] (by kernel_rfl) ?_
    refine EL.done (by kernel_rfl) ?_
    refine EQ.to ?_
    have hS := St.fr hS 1 rfl
    refine EQ.keep [5, 70] [(5, .slice b2 a7.length b4), (70, .bool (true))] (by kernel_rfl) ?_
    exact fun a ha => ⟨true, b2, b4, ha, (hS.re [0] [] rfl (sub_cons 0 rfl (sub_cons 1 rfl (sub_cons 2 rfl (sub_cons 3 rfl (sub_cons 3 rfl (sub_tail (sub_tail (sub_tail (sub_tail (sub_tail (sub_self)))))))))))), H⟩
  ·obtain ⟨f5, e7, f0, ha, hS, H⟩ := hI
   rw [m1] at H
   (try dsimp only at H)
   refine EW.at ?_ a ha
   clear ha a
   refine EW.condP' (o := (.tmp 70)) (x := Cd40.r.r.r.r.r.l.r.l) (y := Cd40.r.r.r.r.r.l.r.r) (f5) (by kernel_rfl) (by kernel_rfl) (fun i4 => ?_) (fun i4 => ?_)
   ·rw [if_pos i4] at H
    refine EW.seq (x := Cd40.r.r.r.r.r.l.r.l.l) (y := Cd40.r.r.r.r.r.l.r.l.r) (by kernel_rfl) ?_
    refine EW.region (id := 16) (ops := Cd40.r.r.r.r.r.l.r.l.l.ops) (by kernel_rfl) ?_
    refine EL.quick 2 [2, 3] [(2, .slice none ([] : List S69).length 0), (3, .int .i64 20)] (by kernel_rfl) ?_
    refine EL.done (by kernel_rfl) ?_
    refine EQ.code ?_
    refine EW.ret (by kernel_rfl) ?_
    refine EQ.ret ?_
    have hS := St.nilR hS kS69
    simp only [Option.some.injEq, Prod.mk.injEq] at H
    obtain ⟨rfl, rfl⟩ := H
    exact EQ.leave (.tuple #[.slice none ([] : List S69).length 0, .int .i64 20]) (by kernel_rfl) ⟨_, rfl, none, 0, rfl, (hS.re [] [0] rfl (sub_cons 0 rfl (sub_tail (sub_tail (sub_tail (sub_tail (sub_tail (sub_self))))))))⟩
   ·rw [if_neg i4] at H
    refine EW.skip (by kernel_rfl) ?_
    refine EQ.code ?_
    refine EW.seq (x := Cd40.r.r.r.r.r.r.l) (y := Cd40.r.r.r.r.r.r.r) (by kernel_rfl) ?_
    refine EW.region (id := 17) (ops := Cd40.r.r.r.r.r.r.l.ops) (by kernel_rfl) ?_
    refine EL.quick 3 [2, 3] [(2, .slice e7 a7.length f0), (3, .int .i64 0)] (by kernel_rfl) ?_
    refine EL.done (by kernel_rfl) ?_
    refine EQ.code ?_
    refine EW.ret (by kernel_rfl) ?_
    simp only [Option.some.injEq, Prod.mk.injEq] at H
    obtain ⟨rfl, rfl⟩ := H
    exact EQ.leave (.tuple #[.slice e7 a7.length f0, .int .i64 0]) (by kernel_rfl) ⟨_, rfl, e7, f0, rfl, (hS.re [] [0] rfl (sub_cons 0 rfl (sub_tail (sub_tail (sub_tail (sub_tail (sub_self)))))))⟩

/-! ### confidant/confidantref21.SameAudit: function 35 -/
def confidantref21_SameAudit.l0 (K : Nat) (a1 : List S69) (a2 : List S69) : Nat → Int → Option Bool
 | 0, _ => none
 | n + 1, a0 => if a0 < (a1.length : Int) then (if 0 ≤ a0 then (if a0 < (a2.length : Int) then (if ((((a1.getD a0.toNat zS69).f0) == ((a2.getD a0.toNat zS69).f0)) && ((((a1.getD a0.toNat zS69).f1) == ((a2.getD a0.toNat zS69).f1)) && ((((a1.getD a0.toNat zS69).f2) == ((a2.getD a0.toNat zS69).f2)) && ((((a1.getD a0.toNat zS69).f3) == ((a2.getD a0.toNat zS69).f3)) && ((((a1.getD a0.toNat zS69).f4) == ((a2.getD a0.toNat zS69).f4)) && ((((a1.getD a0.toNat zS69).f5) == ((a2.getD a0.toNat zS69).f5)) && true)))))) = true then (confidantref21_SameAudit.l0 K a1 a2 n (IntKind.i64.wrap (a0 + 1))) else (some false)) else none) else none) else (some true)
def confidantref21_SameAudit.f (K : Nat) (a1 : List S69) (a2 : List S69) : Option Bool := if (a1.length : Int) = (a2.length : Int) then (confidantref21_SameAudit.l0 K a1 a2 K 0) else (some false)
set_option maxRecDepth 100000 in
theorem confidantref21_SameAudit.calls {K : Nat} {a1 : List S69} {a2 : List S69} {a5 : Option Addr} {a3 : Nat} {a6 : Option Addr} {a4 : Nat} {b4 : Bool} {B w : World} {os : List Ass} {rs : List Ro} (H : confidantref21_SameAudit.f K a1 a2 = some b4) (hS : St B w (os) (Ro.sl kS69 a5 a3 a1 :: Ro.sl kS69 a6 a4 a2 :: rs)) :
  Calls Try.prog 35 [.slice a5 a1.length a3, .slice a6 a2.length a4].toArray w (fun en w' => ∃ v, en = .returned v ∧ v = .bool (b4) ∧ St B w' (os) (Ro.sl kS69 a5 a3 a1 :: Ro.sl kS69 a6 a4 a2 :: rs)) := by
 unfold confidantref21_SameAudit.f at H
 refine calls_of_EW (args := [.slice a5 a1.length a3, .slice a6 a2.length a4]) (c := Cd35) 26 Try.func35 (by kernel_rfl) (by kernel_rfl) (by kernel_rfl) ?_
 refine EW.seq (x := Cd35.l) (y := Cd35.r) (by kernel_rfl) ?_
 refine EW.region (id := 0) (ops := Cd35.l.ops) (by kernel_rfl) ?_
 refine EL.quick 1 [0, 1] [(0, .slice a5 a1.length a3), (1, .slice a6 a2.length a4)] (by kernel_rfl) ?_
 refine EL.done (by kernel_rfl) ?_
 refine EQ.code ?_
 refine EW.seq (x := Cd35.r.l) (y := Cd35.r.r) (by kernel_rfl) ?_
 refine EW.seq (x := Cd35.r.l.l) (y := Cd35.r.l.r) (by kernel_rfl) ?_
 refine EW.region (id := 1) (ops := Cd35.r.l.l.ops) (by kernel_rfl) ?_
 refine EL.quick 5 [0, 1, 10] [(0, .slice a5 a1.length a3), (1, .slice a6 a2.length a4), (10, .bool (!(decide ((a1.length : Int) = (a2.length : Int)))))] (by kernel_rfl) ?_
 refine EL.done (by kernel_rfl) ?_
 refine EQ.code ?_
 refine EW.condQ (b := !(decide ((a1.length : Int) = (a2.length : Int)))) (o := (.tmp 10)) (x := Cd35.r.l.r.l) (y := Cd35.r.l.r.r) ((a1.length : Int) = (a2.length : Int)) (false) (by kernel_rfl) (by kernel_rfl) ⟨fun h => (by rw [decide_eq_true h] <;> rfl), fun h => (by rw [decide_eq_false h] <;> rfl)⟩ (fun b1 => ?_) (fun b1 => ?_)
 ·rw [if_pos b1] at H
  refine EW.skip (by kernel_rfl) ?_
  refine EQ.code ?_
  refine EW.seq (x := Cd35.r.r.l) (y := Cd35.r.r.r) (by kernel_rfl) ?_
  refine EW.seq (x := Cd35.r.r.l.l) (y := Cd35.r.r.l.r) (by kernel_rfl) ?_
  refine EW.region (id := 3) (ops := Cd35.r.r.l.l.ops) (by kernel_rfl) ?_
  refine EL.quick 1 [0, 1, 5] [(0, .slice a5 a1.length a3), (1, .slice a6 a2.length a4), (5, .int .i64 0)] (by kernel_rfl) ?_
  refine EL.done (by kernel_rfl) ?_
  refine EQ.code ?_
  refine EW.block (x := Cd35.r.r.l.r.l) (id := 0) (by kernel_rfl) ?_
  refine EW.loop (x := Cd35.r.r.l.r.l.l) (fun n a w => ∃ a0 : Int, Sat 26 [(0, .slice a5 a1.length a3), (1, .slice a6 a2.length a4), (5, .int .i64 a0)] a ∧ St B w (os) (Ro.sl kS69 a5 a3 a1 :: Ro.sl kS69 a6 a4 a2 :: rs) ∧ confidantref21_SameAudit.l0 K a1 a2 n a0 = some b4) K (by kernel_rfl) ?_ (fun n a w hI => ?_)
  ·refine EQ.keep [0, 1, 5] [(0, .slice a5 a1.length a3), (1, .slice a6 a2.length a4), (5, .int .i64 0)] (by kernel_rfl) ?_
   exact fun a ha => ⟨0, ha, (hS.re [] [] rfl (sub_cons 0 rfl (sub_cons 1 rfl (sub_tail (sub_tail (sub_self)))))), H⟩
  ·obtain ⟨a0, ha, hS, H⟩ := hI
   obtain _ | n := n
   ·simp [confidantref21_SameAudit.l0] at H
   rw [confidantref21_SameAudit.l0.eq_2] at H
   refine EW.at ?_ a ha
   clear ha a
   refine EW.seq (x := Cd35.r.r.l.r.l.l.l) (y := Cd35.r.r.l.r.l.l.r) (by kernel_rfl) ?_
   refine EW.seq (x := Cd35.r.r.l.r.l.l.l.l) (y := Cd35.r.r.l.r.l.l.l.r) (by kernel_rfl) ?_
   refine EW.region (id := 4) (ops := Cd35.r.r.l.r.l.l.l.l.ops) (by kernel_rfl) ?_
   refine EL.quick 4 [0, 1, 5, 14] [(0, .slice a5 a1.length a3), (1, .slice a6 a2.length a4), (5, .int .i64 a0), (14, .bool (decide (a0 < (a1.length : Int))))] (by kernel_rfl) ?_
   refine EL.done (by kernel_rfl) ?_
   refine EQ.code ?_
   refine EW.condP (o := (.tmp 14)) (x := Cd35.r.r.l.r.l.l.l.r.l) (y := Cd35.r.r.l.r.l.l.l.r.r) (a0 < (a1.length : Int)) (by kernel_rfl) (by kernel_rfl) (fun a9 => ?_) (fun a9 => ?_)
   ·rw [if_pos a9] at H
    refine EW.skip (by kernel_rfl) ?_
    refine EQ.code ?_
    refine EW.seq (x := Cd35.r.r.l.r.l.l.r.l) (y := Cd35.r.r.l.r.l.l.r.r) (by kernel_rfl) ?_
    refine EW.block (x := Cd35.r.r.l.r.l.l.r.l.l) (id := 1) (by kernel_rfl) ?_
    refine EW.seq (x := Cd35.r.r.l.r.l.l.r.l.l.l) (y := Cd35.r.r.l.r.l.l.r.l.l.r) (by kernel_rfl) ?_
    obtain ⟨b0, H⟩ := ite_in H
    obtain ⟨a7, rfl⟩ := St.rd_some hS (Rd.ro 0 rfl) b0 a9
    obtain ⟨b2, H⟩ := ite_in H
    obtain ⟨a8, rfl⟩ := St.rd_some hS (Rd.ro 1 rfl) b0 b2
    have hS := hS.drew
    refine EW.draw (B := B) (id := 6) (ops := Cd35.r.r.l.r.l.l.r.l.l.l.ops) [] [Ro.sl kS69 (some a7) a3 a1, Ro.sl kS69 (some a8) a4 a2] (by kernel_rfl) (by kernel_rfl) ?_
    have hN : Region.noSelect Cd35.r.r.l.r.l.l.r.l.l.l.ops = true := (by kernel_rfl)
    have hF : freeAll Cd35.r.r.l.r.l.l.r.l.l.l.ops = true := (by kernel_rfl)
    have hC : Core B [] [Ro.sl kS69 (some a7) a3 a1, Ro.sl kS69 (some a8) a4 a2] _ := ⟨_, _, hS⟩
    refine ED.quick hN hF hC [0, 1, 4, 5] [0, 1, 5, 17, 18, 21, 22] 5 [(0, .slice (some a7) a1.length a3), (1, .slice (some a8) a2.length a4), (5, .int .i64 a0), (17, .slice (some a7) a1.length a3), (18, .int .i64 a0), (21, .slice (some a8) a2.length a4), (22, .int .i64 a0)] #[true, true, false, false, true, true, false, false, false] (by kernel_rfl) (by kernel_rfl) ?_
    refine ED.Y hN hF hC 2 4 #[true, true, true, false, true, true, false, false, false] (by kernel_rfl) (by kernel_rfl) rfl (fun _ _ _ hS => YO.idx 64 6 a7 a1.length a3 .i64 a0 19 (by kernel_rfl) (by kernel_rfl) (by kernel_rfl) (by kernel_rfl) b0 a9) ?_
    refine ED.Y hN hF hC 3 3 #[true, true, true, true, true, true, false, false, false] (by kernel_rfl) (by kernel_rfl) rfl (fun _ _ _ hS => YO.loadEl hS kS69 a7 a3 a1 (Rd.ro 0 rfl) zS69 encS69 encS69_of a0 b0 a9 69 6 0 6 rfl (.agg #[.int .i64 ((a1.getD a0.toNat zS69).f0), .int .i64 ((a1.getD a0.toNat zS69).f1), .int .i64 ((a1.getD a0.toNat zS69).f2), .int .i32 ((a1.getD a0.toNat zS69).f3), .int .i64 ((a1.getD a0.toNat zS69).f4), .int .i32 ((a1.getD a0.toNat zS69).f5)]) 20 (by kernel_rfl) (by kernel_rfl) (by kernel_rfl) (by kernel_rfl)) ?_
    refine ED.Y hN hF hC 6 2 #[true, true, true, true, true, true, true, false, false] (by kernel_rfl) (by kernel_rfl) rfl (fun _ _ _ hS => YO.idx 64 6 a8 a2.length a4 .i64 a0 23 (by kernel_rfl) (by kernel_rfl) (by kernel_rfl) (by kernel_rfl) b0 b2) ?_
    refine ED.Y hN hF hC 7 1 #[true, true, true, true, true, true, true, true, false] (by kernel_rfl) (by kernel_rfl) rfl (fun _ _ _ hS => YO.loadEl hS kS69 a8 a4 a2 (Rd.ro 1 rfl) zS69 encS69 encS69_of a0 b0 b2 69 6 0 6 rfl (.agg #[.int .i64 ((a2.getD a0.toNat zS69).f0), .int .i64 ((a2.getD a0.toNat zS69).f1), .int .i64 ((a2.getD a0.toNat zS69).f2), .int .i32 ((a2.getD a0.toNat zS69).f3), .int .i64 ((a2.getD a0.toNat zS69).f4), .int .i32 ((a2.getD a0.toNat zS69).f5)]) 24 (by kernel_rfl) (by kernel_rfl) (by kernel_rfl) (by kernel_rfl)) ?_
    refine ED.Y hN hF hC 8 0 #[true, true, true, true, true, true, true, true, true] (by kernel_rfl) (by kernel_rfl) rfl (fun _ _ _ hS => YO.eqAg .neq 69 (.tmp 20) (.tmp 24) #[.int .i64 ((a1.getD a0.toNat zS69).f0), .int .i64 ((a1.getD a0.toNat zS69).f1), .int .i64 ((a1.getD a0.toNat zS69).f2), .int .i32 ((a1.getD a0.toNat zS69).f3), .int .i64 ((a1.getD a0.toNat zS69).f4), .int .i32 ((a1.getD a0.toNat zS69).f5)] #[.int .i64 ((a2.getD a0.toNat zS69).f0), .int .i64 ((a2.getD a0.toNat zS69).f1), .int .i64 ((a2.getD a0.toNat zS69).f2), .int .i32 ((a2.getD a0.toNat zS69).f3), .int .i64 ((a2.getD a0.toNat zS69).f4), .int .i32 ((a2.getD a0.toNat zS69).f5)] ((((a1.getD a0.toNat zS69).f0) == ((a2.getD a0.toNat zS69).f0)) && ((((a1.getD a0.toNat zS69).f1) == ((a2.getD a0.toNat zS69).f1)) && ((((a1.getD a0.toNat zS69).f2) == ((a2.getD a0.toNat zS69).f2)) && ((((a1.getD a0.toNat zS69).f3) == ((a2.getD a0.toNat zS69).f3)) && ((((a1.getD a0.toNat zS69).f4) == ((a2.getD a0.toNat zS69).f4)) && ((((a1.getD a0.toNat zS69).f5) == ((a2.getD a0.toNat zS69).f5)) && true)))))) (!(((((a1.getD a0.toNat zS69).f0) == ((a2.getD a0.toNat zS69).f0)) && ((((a1.getD a0.toNat zS69).f1) == ((a2.getD a0.toNat zS69).f1)) && ((((a1.getD a0.toNat zS69).f2) == ((a2.getD a0.toNat zS69).f2)) && ((((a1.getD a0.toNat zS69).f3) == ((a2.getD a0.toNat zS69).f3)) && ((((a1.getD a0.toNat zS69).f4) == ((a2.getD a0.toNat zS69).f4)) && ((((a1.getD a0.toNat zS69).f5) == ((a2.getD a0.toNat zS69).f5)) && true)))))))) 25 (by kernel_rfl) (by kernel_rfl) (by kernel_rfl) (by kernel_rfl) (by kernel_rfl) (.inr ⟨rfl, rfl⟩)) ?_
    refine ED.done (by kernel_rfl) ?_
    refine EQ.code ?_
    refine EW.condQ (b := !(((((a1.getD a0.toNat zS69).f0) == ((a2.getD a0.toNat zS69).f0)) && ((((a1.getD a0.toNat zS69).f1) == ((a2.getD a0.toNat zS69).f1)) && ((((a1.getD a0.toNat zS69).f2) == ((a2.getD a0.toNat zS69).f2)) && ((((a1.getD a0.toNat zS69).f3) == ((a2.getD a0.toNat zS69).f3)) && ((((a1.getD a0.toNat zS69).f4) == ((a2.getD a0.toNat zS69).f4)) && ((((a1.getD a0.toNat zS69).f5) == ((a2.getD a0.toNat zS69).f5)) && true)))))))) (o := (.tmp 25)) (x := Cd35.r.r.l.r.l.l.r.l.l.r.l) (y := Cd35.r.r.l.r.l.l.r.l.l.r.r) (((((a1.getD a0.toNat zS69).f0) == ((a2.getD a0.toNat zS69).f0)) && ((((a1.getD a0.toNat zS69).f1) == ((a2.getD a0.toNat zS69).f1)) && ((((a1.getD a0.toNat zS69).f2) == ((a2.getD a0.toNat zS69).f2)) && ((((a1.getD a0.toNat zS69).f3) == ((a2.getD a0.toNat zS69).f3)) && ((((a1.getD a0.toNat zS69).f4) == ((a2.getD a0.toNat zS69).f4)) && ((((a1.getD a0.toNat zS69).f5) == ((a2.getD a0.toNat zS69).f5)) && true)))))) = true) (false) (by kernel_rfl) (by kernel_rfl) ⟨fun h => (by rw [h] <;> rfl), fun h => (by rw [Bool.eq_false_iff.2 h] <;> rfl)⟩ (fun b3 => ?_) (fun b3 => ?_)
    ·rw [if_pos b3] at H
     refine EW.skip (by kernel_rfl) ?_
     refine EQ.pop ?_
     refine EQ.code ?_
     refine EW.region (id := 5) (ops := Cd35.r.r.l.r.l.l.r.r.ops) (by kernel_rfl) ?_
     refine EL.quick 3 [0, 1, 5] [(0, .slice (some a7) a1.length a3), (1, .slice (some a8) a2.length a4), (5, .int .i64 (IntKind.i64.wrap (a0 + 1)))] (by kernel_rfl) ?_
     refine EL.done (by kernel_rfl) ?_
     refine EQ.to ?_
     refine EQ.keep [0, 1, 5] [(0, .slice (some a7) a1.length a3), (1, .slice (some a8) a2.length a4), (5, .int .i64 (IntKind.i64.wrap (a0 + 1)))] (by kernel_rfl) ?_
     exact fun a ha => ⟨n, Nat.lt_succ_self n, IntKind.i64.wrap (a0 + 1), ha, (hS.re [] [] rfl (sub_cons 0 rfl (sub_cons 1 rfl (sub_tail (sub_tail (sub_self)))))), H⟩
    ·rw [if_neg b3] at H
     refine EW.seq (x := Cd35.r.r.l.r.l.l.r.l.l.r.l.l) (y := Cd35.r.r.l.r.l.l.r.l.l.r.l.r) (by kernel_rfl) ?_
     refine EW.region (id := 7) (ops := Cd35.r.r.l.r.l.l.r.l.l.r.l.l.ops) (by kernel_rfl) ?_
     refine EL.quick 1 [4] [(4, .bool (false))] (by kernel_rfl) ?_
     refine EL.done (by kernel_rfl) ?_
     refine EQ.code ?_
     refine EW.ret (by kernel_rfl) ?_
     refine EQ.ret ?_
     refine EQ.ret ?_
     refine EQ.ret ?_
     refine EQ.ret ?_
     refine EQ.ret ?_
     obtain rfl := Option.some.inj H
     exact EQ.leave (.bool (false)) (by kernel_rfl) ⟨_, rfl, rfl, (hS.re [] [] rfl (sub_self))⟩
   ·rw [if_neg a9] at H
    refine EW.exit (id := 0) (by kernel_rfl) ?_
    refine EQ.exitCode ?_
    refine EQ.exitTo ?_
    refine EQ.exitHere ?_
    refine EQ.code ?_
    refine EW.seq (x := Cd35.r.r.r.l) (y := Cd35.r.r.r.r) (by kernel_rfl) ?_
    refine EW.region (id := 8) (ops := Cd35.r.r.r.l.ops) (by kernel_rfl) ?_
    refine EL.quick 1 [4] [(4, .bool (true))] (by kernel_rfl) ?_
    refine EL.done (by kernel_rfl) ?_
    refine EQ.code ?_
    refine EW.ret (by kernel_rfl) ?_
    obtain rfl := Option.some.inj H
    exact EQ.leave (.bool (true)) (by kernel_rfl) ⟨_, rfl, rfl, (hS.re [] [] rfl (sub_self))⟩
 ·rw [if_neg b1] at H
  refine EW.seq (x := Cd35.r.l.r.l.l) (y := Cd35.r.l.r.l.r) (by kernel_rfl) ?_
  refine EW.region (id := 2) (ops := Cd35.r.l.r.l.l.ops) (by kernel_rfl) ?_
  refine EL.quick 1 [4] [(4, .bool (false))] (by kernel_rfl) ?_
  refine EL.done (by kernel_rfl) ?_
  refine EQ.code ?_
  refine EW.ret (by kernel_rfl) ?_
  refine EQ.ret ?_
  obtain rfl := Option.some.inj H
  exact EQ.leave (.bool (false)) (by kernel_rfl) ⟨_, rfl, rfl, (hS.re [] [] rfl (sub_self))⟩

end Go.Proofs.Ytipaaapbapijhaa.G
