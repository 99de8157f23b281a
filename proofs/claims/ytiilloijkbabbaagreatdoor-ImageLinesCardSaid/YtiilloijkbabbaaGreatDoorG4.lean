import Derived.Test.YtiilloijkbabbaaGreatDoorProg
import Derived.Test.YtiilloijkbabbaaGreatDoorFwShort
import Derived.Test.YtiilloijkbabbaaGreatDoorFwOpen
import Derived.Test.YtiilloijkbabbaaGreatDoorFwStr
import Derived.Test.YtiilloijkbabbaaGreatDoorG0
import Derived.Test.YtiilloijkbabbaaGreatDoorG2
namespace Go.Proofs.YtiilloijkbabbaaGreatDoor.G
open Go Go.Fw Go.RowKit Go.Proofs
set_option linter.unusedVariables false
set_option linter.unusedSimpArgs false

noncomputable def Cd5 : Code := bodyOf Tryz.f5

noncomputable def Cd12 : Code := bodyOf Tryz.f12

noncomputable def Cd15 : Code := bodyOf Tryz.f15

noncomputable def Cd18 : Code := bodyOf Tryz.f18

noncomputable def Cd19 : Code := bodyOf Tryz.f19

noncomputable def Cd20 : Code := bodyOf Tryz.f20

noncomputable def Cd21 : Code := bodyOf Tryz.f21

noncomputable def Cd31 : Code := bodyOf Tryz.f31

noncomputable def Cd33 : Code := bodyOf Tryz.f33

noncomputable def Cd40 : Code := bodyOf Tryz.f40

noncomputable def Cd44 : Code := bodyOf Tryz.f44

noncomputable def Cd45 : Code := bodyOf Tryz.f45

noncomputable def Cd46 : Code := bodyOf Tryz.f46

noncomputable def Cd59 : Code := bodyOf Tryz.f59

noncomputable def Cd64 : Code := bodyOf Tryz.f64

noncomputable def Cd65 : Code := bodyOf Tryz.f65

noncomputable def Cd66 : Code := bodyOf Tryz.f66

/-! ### confidant/confidantref1.Put: function 31 -/
def confidantref1_Put.l1 (K : Nat) (b9 : (List Int) → Option (List Int)) : Nat → (List Int) → Int → Option (List Int)
 | 0, _, _ => none
 | n + 1, a9, a7 => if a7 > 0 then (lt ([bO .u8 (IntKind.u8.wrap (bA .u64 a7 127)) 128] : List Int) fun c6 => (if (c6.length + a9.length) * 1 ≤ 140737488355328 then (lt (c6 ++ a9) fun b6 => (confidantref1_Put.l1 K b9 n b6 (sR .u64 a7 7))) else none)) else (b9 a9)
def confidantref1_Put.l0 (K : Nat) (a0 : List Int) : Nat → (List Int) → Int → Option (List Int)
 | 0, _, _ => none
 | n + 1, a3, a1 => if a1 < (a0.length : Int) then (lt (fun (b3 : List Int) (d1 : List Int) => (confidantref1_Put.l0 K a0 n b3 (IntKind.i64.wrap (a1 + 1)))) fun d3 => (if 0 ≤ a1 then (lt ([IntKind.u8.wrap (bA .u64 (a0.getD a1.toNat 0) 127)] : List Int) fun b5 => (lt (fun (b0 : List Int) => (if (a3.length + b0.length) * 1 ≤ 140737488355328 then (lt (a3 ++ b0) fun c0 => (d3 c0 b0)) else none)) fun b9 => (confidantref1_Put.l1 K b9 K b5 (sR .u64 (a0.getD a1.toNat 0) 7)))) else none)) else (some a3)
def confidantref1_Put.f (K : Nat) (a0 : List Int) : Option (List Int) := confidantref1_Put.l0 K a0 K ([] : List Int) 0
set_option maxRecDepth 100000 in
theorem confidantref1_Put.calls {K : Nat} {a0 : List Int} {a8 : Option Addr} {a2 : Nat} {c1 : List Int} {B w : World} {os : List Ass} {rs : List Ro} (H : confidantref1_Put.f K a0 = some c1) (hS : St B w (os) (Ro.sl (Kd.int .u64) a8 a2 a0 :: rs)) :
  Calls Tryz.prog 31 [sv a8 a2 a0].toArray w (fun en w' => ∃ v, en = .returned v ∧ ∃ d4 : Option Addr, ∃ d6 : Nat, v = sv d4 d6 c1 ∧ St B w' (Ass.own 5 (Kd.int .u8) d4 d6 c1 :: os) (Ro.sl (Kd.int .u64) a8 a2 a0 :: rs)) := by
 unfold confidantref1_Put.f at H
 refine calls_of_EW (args := [sv a8 a2 a0]) (c := Cd31) 40 Tryz.func31 (by kernel_rfl) (by kernel_rfl) (by kernel_rfl) ?_
 refine EW.sq (by kernel_rfl) ?_
 refine EW.rg (by kernel_rfl) ?_
 refine EL.quick 1 [0] [(0, sv a8 a2 a0)] (by kernel_rfl) ?_
 refine EL.done (by kernel_rfl) ?_
 refine EQ.code ?_
 refine EW.sq (by kernel_rfl) ?_
 refine EW.rg (by kernel_rfl) ?_
 refine EL.quick 1 [0, 3] [(0, sv a8 a2 a0), (3, sv none 0 ([] : List Int))] (by kernel_rfl) ?_
 refine EL.done (by kernel_rfl) ?_
 refine EQ.code ?_
 refine EW.sq (by kernel_rfl) ?_
 refine EW.sq (by kernel_rfl) ?_
 refine EW.rg (by kernel_rfl) ?_
 refine EL.quick 1 [0, 3, 4] [(0, sv a8 a2 a0), (3, sv none 0 ([] : List Int)), (4, ia 0)] (by kernel_rfl) ?_
 refine EL.done (by kernel_rfl) ?_
 refine EQ.code ?_
 refine EW.bl 0 (by kernel_rfl) ?_
 have hS := St.nilO hS 5 (Kd.int .u8)
 refine EW.lp (fun n a w => ∃ a3 : List Int, ∃ a1 : Int, ∃ a4 : Option Addr, ∃ a5 : Nat, Sat 40 [(0, sv a8 a2 a0), (3, sv a4 a5 a3), (4, ia a1)] a ∧ St B w (Ass.own 5 (Kd.int .u8) a4 a5 a3 :: os) (Ro.sl (Kd.int .u64) a8 a2 a0 :: rs) ∧ confidantref1_Put.l0 K a0 n a3 a1 = some c1) K (by kernel_rfl) ?_ (fun n a w hI => ?_)
 ·refine EQ.keep [0, 3, 4] [(0, sv a8 a2 a0), (3, sv none 0 ([] : List Int)), (4, ia 0)] (by kernel_rfl) ?_
  exact fun a ha => ⟨([] : List Int), 0, none, 0, ha, (hS.re [0] [] rfl (sub_cons 0 rfl (sub_tail (sub_self)))), H⟩
 obtain ⟨a3, a1, a4, a5, ha, hS, H⟩ := hI
 obtain _ | n := n
 ·simp [confidantref1_Put.l0] at H
 rw [confidantref1_Put.l0.eq_2] at H
 refine EW.at ?_ a ha
 clear ha a
 refine EW.sq (by kernel_rfl) ?_
 refine EW.sq (by kernel_rfl) ?_
 refine EW.rg (by kernel_rfl) ?_
 refine EL.quick 4 [0, 3, 4, 10] [(0, sv a8 a2 a0), (3, sv a4 a5 a3), (4, ia a1), (10, .bool (decide (a1 < (a0.length : Int))))] (by kernel_rfl) ?_
 refine EL.done (by kernel_rfl) ?_
 refine EQ.code ?_
 refine EW.cdP (a1 < (a0.length : Int)) (by kernel_rfl) (by kernel_rfl) (fun b4 => ?_) (fun b4 => ?_)
 ·rw [if_pos b4] at H
  refine EW.skip (by kernel_rfl) ?_
  refine EQ.code ?_
  obtain ⟨d3, e3, H⟩ := lt_out H
  refine EW.ct (fun a w => ∃ b3 : List Int, ∃ d1 : List Int, ∃ c2 : Option Addr, ∃ c4 : Nat, ∃ d5 : Option Addr, ∃ d7 : Nat, Sat 40 [(0, sv a8 a2 a0), (3, sv c2 c4 b3), (4, ia a1)] a ∧ St B w (Ass.own 5 (Kd.int .u8) c2 c4 b3 :: Ass.own 5 (Kd.int .u8) d5 d7 d1 :: os) (Ro.sl (Kd.int .u64) a8 a2 a0 :: rs) ∧ d3 b3 d1 = some c1) (by kernel_rfl) ?_ (fun a w hI => ?_)
  ·refine EW.bl 1 (by kernel_rfl) ?_
   refine EW.sq (by kernel_rfl) ?_
   refine EW.rg (by kernel_rfl) ?_
   refine EL.quick 2 [0, 3, 4, 13, 14] [(0, sv a8 a2 a0), (3, sv a4 a5 a3), (4, ia a1), (13, sv a8 a2 a0), (14, ia a1)] (by kernel_rfl) ?_
   obtain ⟨d0, H⟩ := ite_in H
   obtain ⟨a6, rfl⟩ := St.rd_some hS (Rd.ro 0 rfl) d0 b4
   refine EL.of (EO.Y (YO.idx 98 1 a6 a0.length a2 .i64 a1 15 (by kernel_rfl) (by kernel_rfl) (by kernel_rfl) (by kernel_rfl) d0 b4) ?_)
   refine EL.of (EO.Y (YO.loadEl hS (Kd.int .u64) a6 a2 a0 (Rd.ro 0 rfl) 0 (encI .u64) encI_of a1 d0 b4 66 1 0 1 rfl (ic (a0.getD a1.toNat 0)) 16 (by kernel_rfl) (by kernel_rfl) (by kernel_rfl) (by kernel_rfl)) ?_)
   refine EL.quick 2 [0, 3, 4, 18] [(0, sv (some a6) a2 a0), (3, sv a4 a5 a3), (4, ia a1), (18, ig (IntKind.u8.wrap (bA .u64 (a0.getD a1.toNat 0) 127)))] (by kernel_rfl) ?_
   obtain ⟨b5, d9, H⟩ := lt_out H
   refine EL.of (EO.lit hS (Kd.int .u8) 5 22 1 #[(0, ig (IntKind.u8.wrap (bA .u64 (a0.getD a1.toNat 0) 127)))] [ig (IntKind.u8.wrap (bA .u64 (a0.getD a1.toNat 0) 127))] b5 19 (by kernel_rfl) (by kernel_rfl) (by kernel_rfl) (fun _ => (by kernel_rfl)) (by rw [d9]; rfl) (by kernel_rfl) (fun w G hr => (by rw [d9]; exact ⟨[ig (IntKind.u8.wrap (bA .u64 (a0.getD a1.toNat 0) 127))], [], rfl, rfl, rfl⟩)) ?_)
   intro c9 w hS
   refine EL.quick 1 [0, 3, 4, 5] [(0, sv (some a6) a2 a0), (3, sv a4 a5 a3), (4, ia a1), (5, sv (some ⟨c9, 0, none⟩) 1 b5)] (by kernel_rfl) ?_
   refine EL.done (by kernel_rfl) ?_
   refine EQ.code ?_
   obtain ⟨b9, e4, H⟩ := lt_out H
   refine EW.ct (fun a w => ∃ b0 : List Int, ∃ b7 : Option Addr, ∃ b8 : Nat, Sat 40 [(0, sv (some a6) a2 a0), (3, sv a4 a5 a3), (4, ia a1), (5, sv b7 b8 b0)] a ∧ St B w (Ass.own 5 (Kd.int .u8) a4 a5 a3 :: Ass.own 5 (Kd.int .u8) b7 b8 b0 :: os) (Ro.sl (Kd.int .u64) (some a6) a2 a0 :: rs) ∧ b9 b0 = some c1) (by kernel_rfl) ?_ (fun a w hI => ?_)
   ·refine EW.sq (by kernel_rfl) ?_
    refine EW.rg (by kernel_rfl) ?_
    refine EL.quick 2 [0, 3, 4, 5, 20, 21] [(0, sv (some a6) a2 a0), (3, sv a4 a5 a3), (4, ia a1), (5, sv (some ⟨c9, 0, none⟩) 1 b5), (20, sv (some a6) a2 a0), (21, ia a1)] (by kernel_rfl) ?_
    refine EL.of (EO.Y (YO.idx 98 1 a6 a0.length a2 .i64 a1 22 (by kernel_rfl) (by kernel_rfl) (by kernel_rfl) (by kernel_rfl) d0 b4) ?_)
    refine EL.of (EO.Y (YO.loadEl hS (Kd.int .u64) a6 a2 a0 (Rd.ro 0 rfl) 0 (encI .u64) encI_of a1 d0 b4 66 1 0 1 rfl (ic (a0.getD a1.toNat 0)) 23 (by kernel_rfl) (by kernel_rfl) (by kernel_rfl) (by kernel_rfl)) ?_)
    refine EL.quick 2 [0, 3, 4, 5, 6] [(0, sv (some a6) a2 a0), (3, sv a4 a5 a3), (4, ia a1), (5, sv (some ⟨c9, 0, none⟩) 1 b5), (6, ic (sR .u64 (a0.getD a1.toNat 0) 7))] (by kernel_rfl) ?_
    refine EL.done (by kernel_rfl) ?_
    refine EQ.code ?_
    refine EW.bl 2 (by kernel_rfl) ?_
    refine EW.lp (fun n a w => ∃ a9 : List Int, ∃ a7 : Int, ∃ b1 : Option Addr, ∃ b2 : Nat, Sat 40 [(0, sv (some a6) a2 a0), (3, sv a4 a5 a3), (4, ia a1), (5, sv b1 b2 a9), (6, ic a7)] a ∧ St B w (Ass.own 5 (Kd.int .u8) a4 a5 a3 :: Ass.own 5 (Kd.int .u8) b1 b2 a9 :: os) (Ro.sl (Kd.int .u64) (some a6) a2 a0 :: rs) ∧ confidantref1_Put.l1 K b9 n a9 a7 = some c1) K (by kernel_rfl) ?_ (fun n a w hI => ?_)
    ·refine EQ.keep [0, 3, 4, 5, 6] [(0, sv (some a6) a2 a0), (3, sv a4 a5 a3), (4, ia a1), (5, sv (some ⟨c9, 0, none⟩) 1 b5), (6, ic (sR .u64 (a0.getD a1.toNat 0) 7))] (by kernel_rfl) ?_
     exact fun a ha => ⟨b5, sR .u64 (a0.getD a1.toNat 0) 7, (some ⟨c9, 0, none⟩), 1, ha, (hS.re [0, 1] [] rfl (sub_cons 0 rfl (sub_tail (sub_self)))), H⟩
    obtain ⟨a9, a7, b1, b2, ha, hS, H⟩ := hI
    obtain _ | n := n
    ·simp [confidantref1_Put.l1] at H
    rw [confidantref1_Put.l1.eq_2] at H
    refine EW.at ?_ a ha
    clear ha a
    refine EW.sq (by kernel_rfl) ?_
    refine EW.sq (by kernel_rfl) ?_
    refine EW.rg (by kernel_rfl) ?_
    refine EL.quick 2 [0, 3, 4, 5, 6, 26] [(0, sv (some a6) a2 a0), (3, sv a4 a5 a3), (4, ia a1), (5, sv b1 b2 a9), (6, ic a7), (26, .bool (decide (a7 > 0)))] (by kernel_rfl) ?_
    refine EL.done (by kernel_rfl) ?_
    refine EQ.code ?_
    refine EW.cdP (a7 > 0) (by kernel_rfl) (by kernel_rfl) (fun d2 => ?_) (fun d2 => ?_)
    ·rw [if_pos d2] at H
     refine EW.skip (by kernel_rfl) ?_
     refine EQ.code ?_
     refine EW.sq (by kernel_rfl) ?_
     refine EW.bl 3 (by kernel_rfl) ?_
     refine EW.rg (by kernel_rfl) ?_
     refine EL.quick 4 [0, 3, 4, 5, 6, 32] [(0, sv (some a6) a2 a0), (3, sv a4 a5 a3), (4, ia a1), (5, sv b1 b2 a9), (6, ic a7), (32, ig (bO .u8 (IntKind.u8.wrap (bA .u64 a7 127)) 128))] (by kernel_rfl) ?_
     obtain ⟨c6, e0, H⟩ := lt_out H
     refine EL.of (EO.lit hS (Kd.int .u8) 5 22 1 #[(0, ig (bO .u8 (IntKind.u8.wrap (bA .u64 a7 127)) 128))] [ig (bO .u8 (IntKind.u8.wrap (bA .u64 a7 127)) 128)] c6 33 (by kernel_rfl) (by kernel_rfl) (by kernel_rfl) (fun _ => (by kernel_rfl)) (by rw [e0]; rfl) (by kernel_rfl) (fun w G hr => (by rw [e0]; exact ⟨[ig (bO .u8 (IntKind.u8.wrap (bA .u64 a7 127)) 128)], [], rfl, rfl, rfl⟩)) ?_)
     intro d8 w hS
     refine EL.quick 1 [0, 3, 4, 6, 33, 34] [(0, sv (some a6) a2 a0), (3, sv a4 a5 a3), (4, ia a1), (6, ic a7), (33, sv (some ⟨d8, 0, none⟩) 1 c6), (34, sv b1 b2 a9)] (by kernel_rfl) ?_
     obtain ⟨e1, H⟩ := ite_in H
     obtain ⟨b6, e5, H⟩ := lt_out H
     refine EL.of (EO.append hS 22 22 5 1 0 (Kd.int .u8) (some ⟨d8, 0, none⟩) 1 c6 rfl b1 b2 a9 (Rd.own 2 5 rfl) b6 e5 (fun c3 c5 => Ass.own 5 (Kd.int .u8) c3 c5 b6 :: Ass.own 5 (Kd.int .u8) a4 a5 a3 :: Ass.own 5 (Kd.int .u8) b1 b2 a9 :: os) 35 (by kernel_rfl) (by kernel_rfl) (by kernel_rfl) (by kernel_rfl) e1 (fun _ _ => rfl) ?_)
     intro c3 c5 w hS
     refine EL.quick 1 [0, 3, 4, 5, 6] [(0, sv (some a6) a2 a0), (3, sv a4 a5 a3), (4, ia a1), (5, sv c3 c5 b6), (6, ic a7)] (by kernel_rfl) ?_
     refine EL.done (by kernel_rfl) ?_
     refine EQ.pop ?_
     refine EQ.code ?_
     refine EW.rg (by kernel_rfl) ?_
     refine EL.quick 3 [0, 3, 4, 5, 6] [(0, sv (some a6) a2 a0), (3, sv a4 a5 a3), (4, ia a1), (5, sv c3 c5 b6), (6, ic (sR .u64 a7 7))] (by kernel_rfl) ?_
     refine EL.done (by kernel_rfl) ?_
     refine EQ.to ?_
     refine EQ.keep [0, 3, 4, 5, 6] [(0, sv (some a6) a2 a0), (3, sv a4 a5 a3), (4, ia a1), (5, sv c3 c5 b6), (6, ic (sR .u64 a7 7))] (by kernel_rfl) ?_
     exact fun a ha => ⟨n, Nat.lt_succ_self n, b6, sR .u64 a7 7, c3, c5, ha, (hS.re [0, 1] [2] rfl (sub_cons 0 rfl (sub_tail (sub_self)))), H⟩
    rw [if_neg d2] at H
    refine EW.exit (id := 2) (by kernel_rfl) ?_
    refine EQ.exitCode ?_
    refine EQ.exitTo ?_
    refine EQ.exitHere ?_
    refine EQ.to ?_
    refine EQ.keep [0, 3, 4, 5] [(0, sv (some a6) a2 a0), (3, sv a4 a5 a3), (4, ia a1), (5, sv b1 b2 a9)] (by kernel_rfl) ?_
    exact fun a ha => ⟨a9, b1, b2, ha, (hS.re [1, 1] [] rfl (sub_cons 0 rfl (sub_tail (sub_self)))), H⟩
   obtain ⟨b0, b7, b8, ha, hS, H⟩ := hI
   rw [e4] at H
   (try dsimp only at H)
   refine EW.at ?_ a ha
   clear ha a
   refine EW.rg (by kernel_rfl) ?_
   refine EL.quick 2 [0, 4, 36, 37] [(0, sv (some a6) a2 a0), (4, ia a1), (36, sv a4 a5 a3), (37, sv b7 b8 b0)] (by kernel_rfl) ?_
   obtain ⟨e2, H⟩ := ite_in H
   obtain ⟨c0, e6, H⟩ := lt_out H
   refine EL.of (EO.append hS 22 22 5 1 0 (Kd.int .u8) a4 a5 a3 rfl b7 b8 b0 (Rd.own 1 5 rfl) c0 e6 (fun c7 c8 => Ass.own 5 (Kd.int .u8) c7 c8 c0 :: Ass.own 5 (Kd.int .u8) b7 b8 b0 :: os) 38 (by kernel_rfl) (by kernel_rfl) (by kernel_rfl) (by kernel_rfl) e2 (fun _ _ => rfl) ?_)
   intro c7 c8 w hS
   refine EL.quick 1 [0, 3, 4] [(0, sv (some a6) a2 a0), (3, sv c7 c8 c0), (4, ia a1)] (by kernel_rfl) ?_
   refine EL.done (by kernel_rfl) ?_
   refine EQ.pop ?_
   refine EQ.to ?_
   refine EQ.keep [0, 3, 4] [(0, sv (some a6) a2 a0), (3, sv c7 c8 c0), (4, ia a1)] (by kernel_rfl) ?_
   exact fun a ha => ⟨c0, b0, c7, c8, b7, b8, ha, (hS.re [1, 1] [] rfl (sub_cons 0 rfl (sub_tail (sub_self)))), H⟩
  obtain ⟨b3, d1, c2, c4, d5, d7, ha, hS, H⟩ := hI
  rw [e3] at H
  (try dsimp only at H)
  refine EW.at ?_ a ha
  clear ha a
  refine EW.rg (by kernel_rfl) ?_
  refine EL.quick 3 [0, 3, 4] [(0, sv a8 a2 a0), (3, sv c2 c4 b3), (4, ia (IntKind.i64.wrap (a1 + 1)))] (by kernel_rfl) ?_
  refine EL.done (by kernel_rfl) ?_
  refine EQ.to ?_
  refine EQ.keep [0, 3, 4] [(0, sv a8 a2 a0), (3, sv c2 c4 b3), (4, ia (IntKind.i64.wrap (a1 + 1)))] (by kernel_rfl) ?_
  exact fun a ha => ⟨n, Nat.lt_succ_self n, b3, IntKind.i64.wrap (a1 + 1), c2, c4, ha, (hS.re [0] [1] rfl (sub_cons 0 rfl (sub_tail (sub_self)))), H⟩
 rw [if_neg b4] at H
 refine EW.exit (id := 0) (by kernel_rfl) ?_
 refine EQ.exitCode ?_
 refine EQ.exitTo ?_
 refine EQ.exitHere ?_
 refine EQ.code ?_
 refine EW.sq (by kernel_rfl) ?_
 refine EW.rg (by kernel_rfl) ?_
 refine EL.quick 2 [2] [(2, sv a4 a5 a3)] (by kernel_rfl) ?_
 refine EL.done (by kernel_rfl) ?_
 refine EQ.code ?_
 refine EW.ret (by kernel_rfl) ?_
 obtain rfl := Option.some.inj H
 exact EQ.leave (sv a4 a5 a3) (by kernel_rfl) ⟨_, rfl, a4, a5, rfl, (hS.re [0] [] rfl (sub_self))⟩

/-! ### confidant/confidantref1.Int: function 59 -/
def confidantref1_Int.f (K : Nat) (a0 : Int) : Option Int := some (IntKind.u64.wrap (IntKind.u32.wrap a0))
set_option maxRecDepth 100000 in
theorem confidantref1_Int.calls {K : Nat} {a0 : Int} {a1 : Int} {B w : World} {os : List Ass} {rs : List Ro} (H : confidantref1_Int.f K a0 = some a1) (hS : St B w (os) (rs)) :
  Calls Tryz.prog 59 [ib a0].toArray w (fun en w' => ∃ v, en = .returned v ∧ v = ic a1 ∧ St B w' (os) (rs)) := by
 unfold confidantref1_Int.f at H
 refine calls_of_EW (args := [ib a0]) (c := Cd59) 6 Tryz.func59 (by kernel_rfl) (by kernel_rfl) (by kernel_rfl) ?_
 refine EW.sq (by kernel_rfl) ?_
 refine EW.rg (by kernel_rfl) ?_
 refine EL.quick 1 [0] [(0, ib a0)] (by kernel_rfl) ?_
 refine EL.done (by kernel_rfl) ?_
 refine EQ.code ?_
 refine EW.sq (by kernel_rfl) ?_
 refine EW.rg (by kernel_rfl) ?_
 refine EL.quick 4 [2] [(2, ic (IntKind.u64.wrap (IntKind.u32.wrap a0)))] (by kernel_rfl) ?_
 refine EL.done (by kernel_rfl) ?_
 refine EQ.code ?_
 refine EW.ret (by kernel_rfl) ?_
 obtain rfl := Option.some.inj H
 exact EQ.leave (ic (IntKind.u64.wrap (IntKind.u32.wrap a0))) (by kernel_rfl) ⟨_, rfl, rfl, (hS.re [] [] rfl (sub_self))⟩

/-! ### confidant/confidantref5.Put: function 33 -/
def confidantref5_Put.f (K : Nat) (a0 : Int) (a1 : Int) : Option (List Int) := b1 (confidantref5_Right.f K a0 a1) fun (a6 : Bool) => (if a6 = true then (b1 (confidantref5_Arg.f K a0) fun (a7 : Int) => (if a7 = 0 then (lt ([IntKind.u64.wrap a0] : List Int) fun a4 => (b1 (confidantref1_Put.f K a4) fun (a8 : List Int) => (some a8))) else (b1 (confidantref1_Int.f K a1) fun (a3 : Int) => (lt ([IntKind.u64.wrap a0, a3] : List Int) fun a5 => (b1 (confidantref1_Put.f K a5) fun (a9 : List Int) => (some a9)))))) else (some ([] : List Int)))
set_option maxRecDepth 100000 in
theorem confidantref5_Put.calls {K : Nat} {a0 : Int} {a1 : Int} {b7 : List Int} {B w : World} {os : List Ass} {rs : List Ro} (H : confidantref5_Put.f K a0 a1 = some b7) (hS : St B w (os) (rs)) :
  Calls Tryz.prog 33 [ag [ia a0, ib a1]].toArray w (fun en w' => ∃ v, en = .returned v ∧ ∃ b8 : Option Addr, ∃ b9 : Nat, v = sv b8 b9 b7 ∧ St B w' (Ass.own 5 (Kd.int .u8) b8 b9 b7 :: os) (rs)) := by
 unfold confidantref5_Put.f at H
 refine calls_of_EW (args := [ag [ia a0, ib a1]]) (c := Cd33) 25 Tryz.func33 (by kernel_rfl) (by kernel_rfl) (by kernel_rfl) ?_
 refine EW.sq (by kernel_rfl) ?_
 refine EW.rg (by kernel_rfl) ?_
 refine EL.of (EO.box hS 59 (ag [ia a0, ib a1]) [ia a0, ib a1] 1 (by kernel_rfl) (by kernel_rfl) (by kernel_rfl) (by first | rfl | kernel_rfl) ?_)
 intro a2 w hS
 refine EL.quick 1 [1] [(1, pt a2 0)] (by kernel_rfl) ?_
 refine EL.done (by kernel_rfl) ?_
 refine EQ.code ?_
 refine EW.sq (by kernel_rfl) ?_
 refine EW.bl 0 (by kernel_rfl) ?_
 refine EW.sq (by kernel_rfl) ?_
 refine EW.rg (by kernel_rfl) ?_
 refine EL.of (EO.Y (YO.loadBox hS 0 rfl 59 0 2 (ag [ia a0, ib a1]) 4 (by kernel_rfl) (by kernel_rfl) (by kernel_rfl) (by kernel_rfl)) ?_)
 obtain ⟨a6, c4, H⟩ := b1_out H
 have hq := confidantref5_Right.calls c4 hS
 refine EL.of (EO.callD 32 [ag [ia a0, ib a1]] _ 5 (by kernel_rfl) (by kernel_rfl) (by kernel_rfl) hq ?_)
 rintro v w ⟨rfl, hS⟩
 refine EL.quick 2 [1, 3] [(1, pt a2 0), (3, .bool (!(a6)))] (by kernel_rfl) ?_
 refine EL.done (by kernel_rfl) ?_
 refine EQ.code ?_
 refine EW.cdQ (b := !(a6)) (a6 = true) (false) (by kernel_rfl) (by kernel_rfl) ⟨fun h => (by rw [h] <;> rfl), fun h => (by rw [Bool.eq_false_iff.2 h] <;> rfl)⟩ (fun b5 => ?_) (fun b5 => ?_)
 ·rw [if_pos b5] at H
  refine EW.sq (by kernel_rfl) ?_
  refine EW.rg (by kernel_rfl) ?_
  refine EL.quick 1 [1, 8] [(1, pt a2 0), (8, pt a2 0)] (by kernel_rfl) ?_
  refine EL.of (EO.Y (YO.loadBox hS 0 rfl 3 0 1 (ia a0) 9 (by kernel_rfl) (by kernel_rfl) (by kernel_rfl) (by kernel_rfl)) ?_)
  obtain ⟨a7, c5, H⟩ := b1_out H
  have hq := confidantref5_Arg.calls c5 hS
  refine EL.of (EO.callD 47 [ia a0] _ 10 (by kernel_rfl) (by kernel_rfl) (by kernel_rfl) hq ?_)
  rintro v w ⟨rfl, hS⟩
  refine EL.quick 2 [1, 7] [(1, pt a2 0), (7, .bool (decide (a7 = 0)))] (by kernel_rfl) ?_
  refine EL.done (by kernel_rfl) ?_
  refine EQ.code ?_
  refine EW.cdP (a7 = 0) (by kernel_rfl) (by kernel_rfl) (fun b6 => ?_) (fun b6 => ?_)
  ·rw [if_pos b6] at H
   refine EW.sq (by kernel_rfl) ?_
   refine EW.rg (by kernel_rfl) ?_
   refine EL.quick 1 [12] [(12, pt a2 0)] (by kernel_rfl) ?_
   refine EL.of (EO.Y (YO.loadBox hS 0 rfl 3 0 1 (ia a0) 13 (by kernel_rfl) (by kernel_rfl) (by kernel_rfl) (by kernel_rfl)) ?_)
   refine EL.quick 1 [14] [(14, ic (IntKind.u64.wrap a0))] (by kernel_rfl) ?_
   obtain ⟨a4, c2, H⟩ := lt_out H
   refine EL.of (EO.lit hS (Kd.int .u64) 66 98 1 #[(0, ic (IntKind.u64.wrap a0))] [ic (IntKind.u64.wrap a0)] a4 15 (by kernel_rfl) (by kernel_rfl) (by kernel_rfl) (fun _ => (by kernel_rfl)) (by rw [c2]; rfl) (by kernel_rfl) (fun w G hr => (by rw [c2]; exact ⟨[ic (IntKind.u64.wrap a0)], [], rfl, rfl, rfl⟩)) ?_)
   intro c0 w hS
   have hS := St.fr hS 0 rfl
   have hS : St B _ (Ass.box 59 a2 [ia a0, ib a1] :: os) (Ro.sl (Kd.int .u64) (some ⟨c0, 0, none⟩) 1 a4 :: rs) := hS.re [] [] rfl (sub_cons 0 rfl (sub_tail (sub_self)))
   obtain ⟨a8, c6, H⟩ := b1_out H
   have hq := confidantref1_Put.calls c6 hS
   refine EL.of (EO.callD 31 [sv (some ⟨c0, 0, none⟩) 1 a4] _ 16 (by kernel_rfl) (by kernel_rfl) (by kernel_rfl) hq ?_)
   rintro v w ⟨b0, b3, rfl, hS⟩
   refine EL.quick 1 [2] [(2, sv b0 b3 a8)] (by kernel_rfl) ?_
   refine EL.done (by kernel_rfl) ?_
   refine EQ.code ?_
   refine EW.ret (by kernel_rfl) ?_
   refine EQ.ret ?_
   refine EQ.ret ?_
   obtain rfl := Option.some.inj H
   exact EQ.leave (sv b0 b3 a8) (by kernel_rfl) ⟨_, rfl, b0, b3, rfl, (hS.re [0] [1] rfl (sub_tail (sub_self)))⟩
  rw [if_neg b6] at H
  refine EW.skip (by kernel_rfl) ?_
  refine EQ.pop ?_
  refine EQ.code ?_
  refine EW.sq (by kernel_rfl) ?_
  obtain ⟨a3, c7, H⟩ := b1_out H
  obtain ⟨a5, c3, H⟩ := lt_out H
  obtain ⟨a9, c8, H⟩ := b1_out H
  have hS := hS.drew
  refine EW.dr (B := B) [Ass.box 59 a2 [ia a0, ib a1]] [] (by kernel_rfl) (by kernel_rfl) ?_
  have hN : Region.noSelect Cd33.r.r.l.ops = true := (by kernel_rfl)
  have hF : freeAll Cd33.r.r.l.ops = true := (by kernel_rfl)
  have hC : Core B [Ass.box 59 a2 [ia a0, ib a1]] [] _ := ⟨_, _, hS⟩
  refine ED.quick hN hF hC [0, 3] [17, 20] 7 [(17, pt a2 0), (20, pt a2 1)] (bm 9 9) (by kernel_rfl) (by kernel_rfl) ?_
  refine ED.Y hN hF hC 1 6 (bm 9 11) (by kernel_rfl) (by kernel_rfl) rfl (fun _ _ _ hS => YO.loadBox hS 0 rfl 3 0 1 (ia a0) 18 (by kernel_rfl) (by kernel_rfl) (by kernel_rfl) (by kernel_rfl)) ?_
  refine ED.quick hN hF hC [2] [19, 20] 5 [(19, ic (IntKind.u64.wrap a0)), (20, pt a2 1)] (bm 9 15) (by kernel_rfl) (by kernel_rfl) ?_
  refine ED.Y hN hF hC 4 4 (bm 9 31) (by kernel_rfl) (by kernel_rfl) rfl (fun _ _ _ hS => YO.loadBox hS 0 rfl 21 1 1 (ib a1) 21 (by kernel_rfl) (by kernel_rfl) (by kernel_rfl) (by kernel_rfl)) ?_
  have hq := confidantref1_Int.calls c7 hS
  refine ED.one 5 3 (bm 9 63) (by kernel_rfl) (by kernel_rfl) (by kernel_rfl) (EO.callD 59 [ib a1] _ 22 (by kernel_rfl) (by kernel_rfl) (by kernel_rfl) hq ?_)
  rintro v w ⟨rfl, hS⟩
  have hC := hC.again ⟨_, _, hS⟩
  refine ⟨hC, ?_⟩
  refine ED.one 6 2 (bm 9 127) (by kernel_rfl) (by kernel_rfl) (by kernel_rfl) (EO.lit hS (Kd.int .u64) 66 98 2 #[(0, ic (IntKind.u64.wrap a0)), (1, ic a3)] [ic (IntKind.u64.wrap a0), ic a3] a5 23 (by kernel_rfl) (by kernel_rfl) (by kernel_rfl) (fun _ => (by kernel_rfl)) (by rw [c3]; rfl) (by kernel_rfl) (fun w G hr => (by rw [c3]; exact ⟨[ic (IntKind.u64.wrap a0)], [ic a3], rfl, rfl, ⟨[ic a3], [], rfl, rfl, rfl⟩⟩)) ?_)
  intro c1 w hS
  have hC := hC.again ⟨_, _, hS.re [1] [] rfl sub_self⟩
  refine ⟨hC, ?_⟩
  have hS := St.fr hS 0 rfl
  have hS : St B _ (Ass.box 59 a2 [ia a0, ib a1] :: os) (Ro.sl (Kd.int .u64) (some ⟨c1, 0, none⟩) 2 a5 :: rs) := hS.re [] [] rfl (sub_cons 0 rfl (sub_tail (sub_self)))
  have hq := confidantref1_Put.calls c8 hS
  refine ED.one 7 1 (bm 9 255) (by kernel_rfl) (by kernel_rfl) (by kernel_rfl) (EO.callD 31 [sv (some ⟨c1, 0, none⟩) 2 a5] _ 24 (by kernel_rfl) (by kernel_rfl) (by kernel_rfl) hq ?_)
  rintro v w ⟨b2, b4, rfl, hS⟩
  have hC := hC.again ⟨_, _, hS.re [1] [] rfl sub_self⟩
  refine ⟨hC, ?_⟩
  refine ED.quick hN hF hC [8] [2] 0 [(2, sv b2 b4 a9)] (bm 9 511) (by kernel_rfl) (by kernel_rfl) ?_
  refine ED.done (by kernel_rfl) ?_
  refine EQ.code ?_
  refine EW.ret (by kernel_rfl) ?_
  obtain rfl := Option.some.inj H
  exact EQ.leave (sv b2 b4 a9) (by kernel_rfl) ⟨_, rfl, b2, b4, rfl, (hS.re [0] [1] rfl (sub_tail (sub_self)))⟩
 rw [if_neg b5] at H
 refine EW.sq (by kernel_rfl) ?_
 refine EW.rg (by kernel_rfl) ?_
 refine EL.quick 1 [2] [(2, sv none 0 ([] : List Int))] (by kernel_rfl) ?_
 refine EL.done (by kernel_rfl) ?_
 refine EQ.code ?_
 refine EW.ret (by kernel_rfl) ?_
 refine EQ.ret ?_
 refine EQ.ret ?_
 have hS := St.nilO hS 5 (Kd.int .u8)
 obtain rfl := Option.some.inj H
 exact EQ.leave (sv none 0 ([] : List Int)) (by kernel_rfl) ⟨_, rfl, none, 0, rfl, (hS.re [0] [1] rfl (sub_self))⟩

/-! ### confidant/confidantref5.ImagePut: function 12 -/
def confidantref5_ImagePut.l2 (K : Nat) (l65 : List (List S59)) (a0 : Int) (c0 : (List Int) → (List Int) → Option (List Int × Int)) (a8 : List Int) : Nat → (List Int) → Int → Option (List Int × Int)
 | 0, _, _ => none
 | n + 1, a4, a1 => if a1 < ((l65.getD a0.toNat []).length : Int) then (if 0 ≤ a1 then (b1 (confidantref5_Right.f K (((l65.getD a0.toNat []).getD a1.toNat zS59).f0) (((l65.getD a0.toNat []).getD a1.toNat zS59).f1)) fun (d7 : Bool) => (if d7 = true then (b1 (confidantref5_Put.f K (((l65.getD a0.toNat []).getD a1.toNat zS59).f0) (((l65.getD a0.toNat []).getD a1.toNat zS59).f1)) fun (d8 : List Int) => (if (a4.length + d8.length) * 1 ≤ 140737488355328 then (lt (a4 ++ d8) fun b8 => (confidantref5_ImagePut.l2 K l65 a0 c0 a8 n b8 (IntKind.i64.wrap (a1 + 1)))) else none)) else (some (([] : List Int), 24)))) else none) else (c0 a8 a4)
def confidantref5_ImagePut.l1 (K : Nat) (l65 : List (List S59)) : Nat → (List Int) → Int → Option (List Int × Int)
 | 0, _, _ => none
 | n + 1, a5, a0 => if a0 < (l65.length : Int) then (lt (fun (e1 : List Int) (b6 : List Int) => (confidantref5_ImagePut.l1 K l65 n b6 (IntKind.i64.wrap (a0 + 1)))) fun c0 => (if 0 ≤ a0 then (lt ([IntKind.u64.wrap ((l65.getD a0.toNat []).length : Int)] : List Int) fun d2 => (b1 (confidantref1_Put.f K d2) fun (a8 : List Int) => (if (a5.length + a8.length) * 1 ≤ 140737488355328 then (lt (a5 ++ a8) fun b7 => (confidantref5_ImagePut.l2 K l65 a0 c0 a8 K b7 0)) else none))) else none)) else (some (a5, 0))
def confidantref5_ImagePut.l0 (K : Nat) (l65 : List (List S59)) (c1 : Option (List Int × Int)) : Nat → Int → Option (List Int × Int)
 | 0, _ => none
 | n + 1, a3 => if a3 < (l65.length : Int) then (if 0 ≤ a3 then (if ((l65.getD a3.toNat []).length : Int) > 512 then (some (([] : List Int), 22)) else (confidantref5_ImagePut.l0 K l65 c1 n (IntKind.i64.wrap (a3 + 1)))) else none) else (c1)
def confidantref5_ImagePut.f (K : Nat) (l65 : List (List S59)) : Option (List Int × Int) := if (l65.length : Int) > 64 then (some (([] : List Int), 22)) else (lt (lt ([IntKind.u64.wrap (l65.length : Int)] : List Int) fun b5 => (b1 (confidantref1_Put.f K b5) fun (d3 : List Int) => (confidantref5_ImagePut.l1 K l65 K d3 0))) fun c1 => (confidantref5_ImagePut.l0 K l65 c1 K 0))
set_option maxRecDepth 100000 in
theorem confidantref5_ImagePut.calls {K : Nat} {l65 : List (List S59)} {A66 : Option Addr} {C67 : Nat} {b9 : List Int} {c2 : Int} {B w : World} {os : List Ass} {rs : List Ro} (H : confidantref5_ImagePut.f K l65 = some (b9, c2)) (hS : St B w (os) (Ro.sl (Kd.slice kS59) A66 C67 l65 :: rs)) :
  Calls Tryz.prog 12 [sv A66 C67 l65].toArray w (fun en w' => ∃ v, en = .returned v ∧ ∃ f4 : Option Addr, ∃ f8 : Nat, v = .tuple #[sv f4 f8 b9, ia c2] ∧ St B w' (Ass.own 5 (Kd.int .u8) f4 f8 b9 :: os) (Ro.sl (Kd.slice kS59) A66 C67 l65 :: rs)) := by
 unfold confidantref5_ImagePut.f at H
 refine calls_of_EW (args := [sv A66 C67 l65]) (c := Cd12) 73 Tryz.func12 (by kernel_rfl) (by kernel_rfl) (by kernel_rfl) ?_
 refine EW.sq (by kernel_rfl) ?_
 refine EW.rg (by kernel_rfl) ?_
 refine EL.quick 2 [0] [(0, sv A66 C67 l65)] (by kernel_rfl) ?_
 refine EL.done (by kernel_rfl) ?_
 refine EQ.code ?_
 refine EW.sq (by kernel_rfl) ?_
 refine EW.sq (by kernel_rfl) ?_
 refine EW.rg (by kernel_rfl) ?_
 refine EL.quick 3 [0, 10] [(0, sv A66 C67 l65), (10, .bool (decide ((l65.length : Int) > 64)))] (by kernel_rfl) ?_
 refine EL.done (by kernel_rfl) ?_
 refine EQ.code ?_
 refine EW.cdP ((l65.length : Int) > 64) (by kernel_rfl) (by kernel_rfl) (fun e6 => ?_) (fun e6 => ?_)
 ·rw [if_pos e6] at H
  refine EW.sq (by kernel_rfl) ?_
  refine EW.rg (by kernel_rfl) ?_
  refine EL.quick 2 [2, 3] [(2, sv none 0 ([] : List Int)), (3, ia 22)] (by kernel_rfl) ?_
  refine EL.done (by kernel_rfl) ?_
  refine EQ.code ?_
  refine EW.ret (by kernel_rfl) ?_
  refine EQ.ret ?_
  have hS := St.nilO hS 5 (Kd.int .u8)
  simp only [encS59, sv, Option.some.injEq, Prod.mk.injEq] at H
  obtain ⟨rfl, rfl⟩ := H
  exact EQ.leave (.tuple #[sv none 0 ([] : List Int), ia 22]) (by kernel_rfl) ⟨_, rfl, none, 0, rfl, (hS.re [0] [] rfl (sub_self))⟩
 rw [if_neg e6] at H
 refine EW.skip (by kernel_rfl) ?_
 refine EQ.code ?_
 obtain ⟨c1, i2, H⟩ := lt_out H
 refine EW.ct (fun a w => Sat 73 [(0, sv A66 C67 l65)] a ∧ St B w (os) (Ro.sl (Kd.slice kS59) A66 C67 l65 :: rs) ∧ c1 = some (b9, c2)) (by kernel_rfl) ?_ (fun a w hI => ?_)
 ·refine EW.sq (by kernel_rfl) ?_
  refine EW.rg (by kernel_rfl) ?_
  refine EL.quick 1 [0, 4] [(0, sv A66 C67 l65), (4, ia 0)] (by kernel_rfl) ?_
  refine EL.done (by kernel_rfl) ?_
  refine EQ.code ?_
  refine EW.bl 0 (by kernel_rfl) ?_
  refine EW.lp (fun n a w => ∃ a3 : Int, Sat 73 [(0, sv A66 C67 l65), (4, ia a3)] a ∧ St B w (os) (Ro.sl (Kd.slice kS59) A66 C67 l65 :: rs) ∧ confidantref5_ImagePut.l0 K l65 c1 n a3 = some (b9, c2)) K (by kernel_rfl) ?_ (fun n a w hI => ?_)
  ·refine EQ.keep [0, 4] [(0, sv A66 C67 l65), (4, ia 0)] (by kernel_rfl) ?_
   exact fun a ha => ⟨0, ha, (hS.re [] [] rfl (sub_cons 0 rfl (sub_tail (sub_self)))), H⟩
  obtain ⟨a3, ha, hS, H⟩ := hI
  obtain _ | n := n
  ·simp [confidantref5_ImagePut.l0] at H
  rw [confidantref5_ImagePut.l0.eq_2] at H
  refine EW.at ?_ a ha
  clear ha a
  refine EW.sq (by kernel_rfl) ?_
  refine EW.sq (by kernel_rfl) ?_
  refine EW.rg (by kernel_rfl) ?_
  refine EL.quick 4 [0, 4, 14] [(0, sv A66 C67 l65), (4, ia a3), (14, .bool (decide (a3 < (l65.length : Int))))] (by kernel_rfl) ?_
  refine EL.done (by kernel_rfl) ?_
  refine EQ.code ?_
  refine EW.cdP (a3 < (l65.length : Int)) (by kernel_rfl) (by kernel_rfl) (fun d1 => ?_) (fun d1 => ?_)
  ·rw [if_pos d1] at H
   refine EW.skip (by kernel_rfl) ?_
   refine EQ.code ?_
   refine EW.sq (by kernel_rfl) ?_
   refine EW.bl 1 (by kernel_rfl) ?_
   refine EW.sq (by kernel_rfl) ?_
   refine EW.rg (by kernel_rfl) ?_
   refine EL.quick 2 [0, 4, 17, 18] [(0, sv A66 C67 l65), (4, ia a3), (17, sv A66 C67 l65), (18, ia a3)] (by kernel_rfl) ?_
   obtain ⟨e7, H⟩ := ite_in H
   obtain ⟨d6, rfl⟩ := St.rd_some hS (Rd.ro 0 rfl) e7 d1
   refine EL.of (EO.Y (YO.idx 26 1 d6 l65.length C67 .i64 a3 19 (by kernel_rfl) (by kernel_rfl) (by kernel_rfl) (by kernel_rfl) e7 d1) ?_)
   refine EL.of (EO.loadSl hS kS59 d6 C67 l65 (Rd.ro 0 rfl) a3 e7 d1 56 20 (by kernel_rfl) (by kernel_rfl) (by kernel_rfl) (by kernel_rfl) ?_)
   intro i6 i8 hS
   refine EL.quick 2 [0, 4, 22] [(0, sv (some d6) C67 l65), (4, ia a3), (22, .bool (decide (((l65.getD a3.toNat []).length : Int) > 512)))] (by kernel_rfl) ?_
   refine EL.done (by kernel_rfl) ?_
   refine EQ.code ?_
   refine EW.cdP (((l65.getD a3.toNat []).length : Int) > 512) (by kernel_rfl) (by kernel_rfl) (fun e8 => ?_) (fun e8 => ?_)
   ·rw [if_pos e8] at H
    refine EW.sq (by kernel_rfl) ?_
    refine EW.rg (by kernel_rfl) ?_
    refine EL.quick 2 [2, 3] [(2, sv none 0 ([] : List Int)), (3, ia 22)] (by kernel_rfl) ?_
    refine EL.done (by kernel_rfl) ?_
    refine EQ.code ?_
    refine EW.ret (by kernel_rfl) ?_
    refine EQ.ret ?_
    refine EQ.ret ?_
    refine EQ.ret ?_
    refine EQ.ret ?_
    refine EQ.ret ?_
    have hS := St.nilO hS 5 (Kd.int .u8)
    simp only [encS59, sv, Option.some.injEq, Prod.mk.injEq] at H
    obtain ⟨rfl, rfl⟩ := H
    exact EQ.leave (.tuple #[sv none 0 ([] : List Int), ia 22]) (by kernel_rfl) ⟨_, rfl, none, 0, rfl, (hS.re [0] [] rfl (sub_tail (sub_self)))⟩
   rw [if_neg e8] at H
   refine EW.skip (by kernel_rfl) ?_
   refine EQ.pop ?_
   refine EQ.code ?_
   refine EW.rg (by kernel_rfl) ?_
   refine EL.quick 3 [0, 4] [(0, sv (some d6) C67 l65), (4, ia (IntKind.i64.wrap (a3 + 1)))] (by kernel_rfl) ?_
   refine EL.done (by kernel_rfl) ?_
   refine EQ.to ?_
   refine EQ.keep [0, 4] [(0, sv (some d6) C67 l65), (4, ia (IntKind.i64.wrap (a3 + 1)))] (by kernel_rfl) ?_
   exact fun a ha => ⟨n, Nat.lt_succ_self n, IntKind.i64.wrap (a3 + 1), ha, (hS.re [] [] rfl (sub_cons 1 rfl (sub_tail (sub_tail (sub_self))))), H⟩
  rw [if_neg d1] at H
  refine EW.exit (id := 0) (by kernel_rfl) ?_
  refine EQ.exitCode ?_
  refine EQ.exitTo ?_
  refine EQ.exitHere ?_
  refine EQ.to ?_
  refine EQ.keep [0] [(0, sv A66 C67 l65)] (by kernel_rfl) ?_
  exact fun a ha => ⟨ha, (hS.re [] [] rfl (sub_cons 0 rfl (sub_tail (sub_self)))), H⟩
 obtain ⟨ha, hS, H⟩ := hI
 rw [i2] at H
 (try dsimp only at H)
 refine EW.at ?_ a ha
 clear ha a
 refine EW.sq (by kernel_rfl) ?_
 refine EW.rg (by kernel_rfl) ?_
 refine EL.quick 3 [0, 25] [(0, sv A66 C67 l65), (25, ic (IntKind.u64.wrap (l65.length : Int)))] (by kernel_rfl) ?_
 obtain ⟨b5, g2, H⟩ := lt_out H
 refine EL.of (EO.lit hS (Kd.int .u64) 66 98 1 #[(0, ic (IntKind.u64.wrap (l65.length : Int)))] [ic (IntKind.u64.wrap (l65.length : Int))] b5 26 (by kernel_rfl) (by kernel_rfl) (by kernel_rfl) (fun _ => (by kernel_rfl)) (by rw [g2]; rfl) (by kernel_rfl) (fun w G hr => (by rw [g2]; exact ⟨[ic (IntKind.u64.wrap (l65.length : Int))], [], rfl, rfl, rfl⟩)) ?_)
 intro c9 w hS
 have hS := St.fr hS 0 rfl
 have hS : St B _ (os) (Ro.sl (Kd.int .u64) (some ⟨c9, 0, none⟩) 1 b5 :: Ro.sl (Kd.slice kS59) A66 C67 l65 :: rs) := hS.re [] [] rfl (sub_cons 0 rfl (sub_tail (sub_self)))
 obtain ⟨d3, i0, H⟩ := b1_out H
 have hq := confidantref1_Put.calls i0 hS
 refine EL.of (EO.callD 31 [sv (some ⟨c9, 0, none⟩) 1 b5] _ 27 (by kernel_rfl) (by kernel_rfl) (by kernel_rfl) hq ?_)
 rintro v w ⟨d9, e0, rfl, hS⟩
 refine EL.quick 1 [0, 5] [(0, sv A66 C67 l65), (5, sv d9 e0 d3)] (by kernel_rfl) ?_
 refine EL.done (by kernel_rfl) ?_
 refine EQ.code ?_
 refine EW.sq (by kernel_rfl) ?_
 refine EW.sq (by kernel_rfl) ?_
 refine EW.rg (by kernel_rfl) ?_
 refine EL.quick 1 [0, 5, 6] [(0, sv A66 C67 l65), (5, sv d9 e0 d3), (6, ia 0)] (by kernel_rfl) ?_
 refine EL.done (by kernel_rfl) ?_
 refine EQ.code ?_
 refine EW.bl 2 (by kernel_rfl) ?_
 refine EW.lp (fun n a w => ∃ a5 : List Int, ∃ a0 : Int, ∃ b0 : Option Addr, ∃ b2 : Nat, Sat 73 [(0, sv A66 C67 l65), (5, sv b0 b2 a5), (6, ia a0)] a ∧ St B w (Ass.own 5 (Kd.int .u8) b0 b2 a5 :: os) (Ro.sl (Kd.int .u64) (some ⟨c9, 0, none⟩) 1 b5 :: Ro.sl (Kd.slice kS59) A66 C67 l65 :: rs) ∧ confidantref5_ImagePut.l1 K l65 n a5 a0 = some (b9, c2)) K (by kernel_rfl) ?_ (fun n a w hI => ?_)
 ·refine EQ.keep [0, 5, 6] [(0, sv A66 C67 l65), (5, sv d9 e0 d3), (6, ia 0)] (by kernel_rfl) ?_
  exact fun a ha => ⟨d3, 0, d9, e0, ha, (hS.re [0] [] rfl (sub_cons 0 rfl (sub_cons 1 rfl (sub_tail (sub_tail (sub_self)))))), H⟩
 obtain ⟨a5, a0, b0, b2, ha, hS, H⟩ := hI
 obtain _ | n := n
 ·simp [confidantref5_ImagePut.l1] at H
 rw [confidantref5_ImagePut.l1.eq_2] at H
 refine EW.at ?_ a ha
 clear ha a
 refine EW.sq (by kernel_rfl) ?_
 refine EW.sq (by kernel_rfl) ?_
 refine EW.rg (by kernel_rfl) ?_
 refine EL.quick 4 [0, 5, 6, 31] [(0, sv A66 C67 l65), (5, sv b0 b2 a5), (6, ia a0), (31, .bool (decide (a0 < (l65.length : Int))))] (by kernel_rfl) ?_
 refine EL.done (by kernel_rfl) ?_
 refine EQ.code ?_
 refine EW.cdP (a0 < (l65.length : Int)) (by kernel_rfl) (by kernel_rfl) (fun a9 => ?_) (fun a9 => ?_)
 ·rw [if_pos a9] at H
  refine EW.skip (by kernel_rfl) ?_
  refine EQ.code ?_
  obtain ⟨c0, i1, H⟩ := lt_out H
  refine EW.ct (fun a w => ∃ e1 : List Int, ∃ b6 : List Int, ∃ e9 : Option Addr, ∃ f5 : Nat, ∃ c3 : Option Addr, ∃ c6 : Nat, Sat 73 [(0, sv A66 C67 l65), (5, sv c3 c6 b6), (6, ia a0)] a ∧ St B w (Ass.own 5 (Kd.int .u8) e9 f5 e1 :: Ass.own 5 (Kd.int .u8) c3 c6 b6 :: os) (Ro.sl (Kd.int .u64) (some ⟨c9, 0, none⟩) 1 b5 :: Ro.sl (Kd.slice kS59) A66 C67 l65 :: rs) ∧ c0 e1 b6 = some (b9, c2)) (by kernel_rfl) ?_ (fun a w hI => ?_)
  ·refine EW.bl 3 (by kernel_rfl) ?_
   refine EW.sq (by kernel_rfl) ?_
   refine EW.rg (by kernel_rfl) ?_
   refine EL.quick 3 [0, 6, 34, 35, 36] [(0, sv A66 C67 l65), (6, ia a0), (34, sv b0 b2 a5), (35, sv A66 C67 l65), (36, ia a0)] (by kernel_rfl) ?_
   obtain ⟨b3, H⟩ := ite_in H
   obtain ⟨a2, rfl⟩ := St.rd_some hS (Rd.ro 1 rfl) b3 a9
   refine EL.of (EO.Y (YO.idx 26 1 a2 l65.length C67 .i64 a0 37 (by kernel_rfl) (by kernel_rfl) (by kernel_rfl) (by kernel_rfl) b3 a9) ?_)
   refine EL.of (EO.loadSl hS kS59 a2 C67 l65 (Rd.ro 1 rfl) a0 b3 a9 56 38 (by kernel_rfl) (by kernel_rfl) (by kernel_rfl) (by kernel_rfl) ?_)
   intro f2 f6 hS
   refine EL.quick 2 [0, 6, 34, 40] [(0, sv (some a2) C67 l65), (6, ia a0), (34, sv b0 b2 a5), (40, ic (IntKind.u64.wrap ((l65.getD a0.toNat []).length : Int)))] (by kernel_rfl) ?_
   obtain ⟨d2, g1, H⟩ := lt_out H
   refine EL.of (EO.lit hS (Kd.int .u64) 66 98 1 #[(0, ic (IntKind.u64.wrap ((l65.getD a0.toNat []).length : Int)))] [ic (IntKind.u64.wrap ((l65.getD a0.toNat []).length : Int))] d2 41 (by kernel_rfl) (by kernel_rfl) (by kernel_rfl) (fun _ => (by kernel_rfl)) (by rw [g1]; rfl) (by kernel_rfl) (fun w G hr => (by rw [g1]; exact ⟨[ic (IntKind.u64.wrap ((l65.getD a0.toNat []).length : Int))], [], rfl, rfl, rfl⟩)) ?_)
   intro e4 w hS
   have hS := St.fr hS 0 rfl
   have hS : St B _ (Ass.own 5 (Kd.int .u8) b0 b2 a5 :: os) (Ro.sl (Kd.int .u64) (some ⟨e4, 0, none⟩) 1 d2 :: Ro.sl kS59 f2 f6 (l65.getD a0.toNat []) :: Ro.sl (Kd.int .u64) (some ⟨c9, 0, none⟩) 1 b5 :: Ro.sl (Kd.slice kS59) (some a2) C67 l65 :: rs) := hS.re [] [] rfl (sub_cons 0 rfl (sub_tail (sub_self)))
   obtain ⟨a8, g7, H⟩ := b1_out H
   have hq := confidantref1_Put.calls g7 hS
   refine EL.of (EO.callD 31 [sv (some ⟨e4, 0, none⟩) 1 d2] _ 42 (by kernel_rfl) (by kernel_rfl) (by kernel_rfl) hq ?_)
   rintro v w ⟨d4, d5, rfl, hS⟩
   obtain ⟨g5, H⟩ := ite_in H
   obtain ⟨b7, i3, H⟩ := lt_out H
   refine EL.of (EO.append hS 22 22 5 1 1 (Kd.int .u8) b0 b2 a5 rfl d4 d5 a8 (Rd.own 0 5 rfl) b7 i3 (fun c4 c7 => Ass.own 5 (Kd.int .u8) d4 d5 a8 :: Ass.own 5 (Kd.int .u8) c4 c7 b7 :: os) 43 (by kernel_rfl) (by kernel_rfl) (by kernel_rfl) (by kernel_rfl) g5 (fun _ _ => rfl) ?_)
   intro c4 c7 w hS
   refine EL.quick 1 [0, 5, 6] [(0, sv (some a2) C67 l65), (5, sv c4 c7 b7), (6, ia a0)] (by kernel_rfl) ?_
   refine EL.done (by kernel_rfl) ?_
   refine EQ.code ?_
   refine EW.sq (by kernel_rfl) ?_
   refine EW.rg (by kernel_rfl) ?_
   refine EL.quick 1 [0, 5, 6, 7] [(0, sv (some a2) C67 l65), (5, sv c4 c7 b7), (6, ia a0), (7, ia 0)] (by kernel_rfl) ?_
   refine EL.done (by kernel_rfl) ?_
   refine EQ.code ?_
   refine EW.bl 4 (by kernel_rfl) ?_
   refine EW.lp (fun n a w => ∃ a4 : List Int, ∃ a1 : Int, ∃ a6 : Option Addr, ∃ a7 : Nat, Sat 73 [(0, sv (some a2) C67 l65), (5, sv a6 a7 a4), (6, ia a0), (7, ia a1)] a ∧ St B w (Ass.own 5 (Kd.int .u8) d4 d5 a8 :: Ass.own 5 (Kd.int .u8) a6 a7 a4 :: os) (Ro.sl (Kd.int .u64) (some ⟨e4, 0, none⟩) 1 d2 :: Ro.sl kS59 f2 f6 (l65.getD a0.toNat []) :: Ro.sl (Kd.int .u64) (some ⟨c9, 0, none⟩) 1 b5 :: Ro.sl (Kd.slice kS59) (some a2) C67 l65 :: rs) ∧ confidantref5_ImagePut.l2 K l65 a0 c0 a8 n a4 a1 = some (b9, c2)) K (by kernel_rfl) ?_ (fun n a w hI => ?_)
   ·refine EQ.keep [0, 5, 6, 7] [(0, sv (some a2) C67 l65), (5, sv c4 c7 b7), (6, ia a0), (7, ia 0)] (by kernel_rfl) ?_
    exact fun a ha => ⟨b7, 0, c4, c7, ha, (hS.re [1, 1] [] rfl (sub_cons 0 rfl (sub_cons 1 rfl (sub_cons 2 rfl (sub_cons 3 rfl (sub_tail (sub_tail (sub_tail (sub_tail (sub_self)))))))))), H⟩
   obtain ⟨a4, a1, a6, a7, ha, hS, H⟩ := hI
   obtain _ | n := n
   ·simp [confidantref5_ImagePut.l2] at H
   rw [confidantref5_ImagePut.l2.eq_2] at H
   refine EW.at ?_ a ha
   clear ha a
   refine EW.sq (by kernel_rfl) ?_
   refine EW.sq (by kernel_rfl) ?_
   refine EW.rg (by kernel_rfl) ?_
   refine EL.quick 3 [0, 5, 6, 7, 44, 45, 46] [(0, sv (some a2) C67 l65), (5, sv a6 a7 a4), (6, ia a0), (7, ia a1), (44, ia a1), (45, sv (some a2) C67 l65), (46, ia a0)] (by kernel_rfl) ?_
   refine EL.of (EO.Y (YO.idx 26 1 a2 l65.length C67 .i64 a0 47 (by kernel_rfl) (by kernel_rfl) (by kernel_rfl) (by kernel_rfl) b3 a9) ?_)
   refine EL.of (EO.loadSl hS kS59 a2 C67 l65 (Rd.ro 3 rfl) a0 b3 a9 56 48 (by kernel_rfl) (by kernel_rfl) (by kernel_rfl) (by kernel_rfl) ?_)
   intro i5 i7 hS
   refine EL.quick 2 [0, 5, 6, 7, 50] [(0, sv (some a2) C67 l65), (5, sv a6 a7 a4), (6, ia a0), (7, ia a1), (50, .bool (decide (a1 < ((l65.getD a0.toNat []).length : Int))))] (by kernel_rfl) ?_
   refine EL.done (by kernel_rfl) ?_
   refine EQ.code ?_
   refine EW.cdP (a1 < ((l65.getD a0.toNat []).length : Int)) (by kernel_rfl) (by kernel_rfl) (fun b4 => ?_) (fun b4 => ?_)
   ·rw [if_pos b4] at H
    refine EW.skip (by kernel_rfl) ?_
    refine EQ.code ?_
    refine EW.sq (by kernel_rfl) ?_
    refine EW.bl 5 (by kernel_rfl) ?_
    refine EW.sq (by kernel_rfl) ?_
    refine EW.sq (by kernel_rfl) ?_
    refine EW.rg (by kernel_rfl) ?_
    refine EL.quick 2 [0, 5, 6, 7, 53, 54] [(0, sv (some a2) C67 l65), (5, sv a6 a7 a4), (6, ia a0), (7, ia a1), (53, sv (some a2) C67 l65), (54, ia a0)] (by kernel_rfl) ?_
    refine EL.of (EO.Y (YO.idx 26 1 a2 l65.length C67 .i64 a0 55 (by kernel_rfl) (by kernel_rfl) (by kernel_rfl) (by kernel_rfl) b3 a9) ?_)
    refine EL.of (EO.loadSl hS kS59 a2 C67 l65 (Rd.ro 4 rfl) a0 b3 a9 56 56 (by kernel_rfl) (by kernel_rfl) (by kernel_rfl) (by kernel_rfl) ?_)
    intro g3 e2 hS
    refine EL.quick 1 [0, 5, 6, 7, 56, 57] [(0, sv (some a2) C67 l65), (5, sv a6 a7 a4), (6, ia a0), (7, ia a1), (56, sv g3 e2 (l65.getD a0.toNat [])), (57, ia a1)] (by kernel_rfl) ?_
    obtain ⟨d0, H⟩ := ite_in H
    obtain ⟨f9, rfl⟩ := St.rd_some hS (Rd.ro 0 rfl) d0 b4
    refine EL.of (EO.Y (YO.idx 56 2 f9 (l65.getD a0.toNat []).length e2 .i64 a1 58 (by kernel_rfl) (by kernel_rfl) (by kernel_rfl) (by kernel_rfl) d0 b4) ?_)
    refine EL.of (EO.Y (YO.loadEl hS kS59 f9 e2 (l65.getD a0.toNat []) (Rd.ro 0 rfl) zS59 encS59 encS59_of a1 d0 b4 59 2 0 2 rfl (ag [ia (((l65.getD a0.toNat []).getD a1.toNat zS59).f0), ib (((l65.getD a0.toNat []).getD a1.toNat zS59).f1)]) 59 (by kernel_rfl) (by kernel_rfl) (by kernel_rfl) (by kernel_rfl)) ?_)
    obtain ⟨d7, g8, H⟩ := b1_out H
    have hq := confidantref5_Right.calls g8 hS
    refine EL.of (EO.callD 32 [ag [ia (((l65.getD a0.toNat []).getD a1.toNat zS59).f0), ib (((l65.getD a0.toNat []).getD a1.toNat zS59).f1)]] _ 60 (by kernel_rfl) (by kernel_rfl) (by kernel_rfl) hq ?_)
    rintro v w ⟨rfl, hS⟩
    refine EL.quick 1 [0, 5, 6, 7, 61] [(0, sv (some a2) C67 l65), (5, sv a6 a7 a4), (6, ia a0), (7, ia a1), (61, .bool (!(d7)))] (by kernel_rfl) ?_
    refine EL.done (by kernel_rfl) ?_
    refine EQ.code ?_
    refine EW.cdQ (b := !(d7)) (d7 = true) (false) (by kernel_rfl) (by kernel_rfl) ⟨fun h => (by rw [h] <;> rfl), fun h => (by rw [Bool.eq_false_iff.2 h] <;> rfl)⟩ (fun e5 => ?_) (fun e5 => ?_)
    ·rw [if_pos e5] at H
     refine EW.skip (by kernel_rfl) ?_
     refine EQ.code ?_
     refine EW.rg (by kernel_rfl) ?_
     refine EL.quick 3 [0, 6, 7, 62, 63, 64] [(0, sv (some a2) C67 l65), (6, ia a0), (7, ia a1), (62, sv a6 a7 a4), (63, sv (some a2) C67 l65), (64, ia a0)] (by kernel_rfl) ?_
     refine EL.of (EO.Y (YO.idx 26 1 a2 l65.length C67 .i64 a0 65 (by kernel_rfl) (by kernel_rfl) (by kernel_rfl) (by kernel_rfl) b3 a9) ?_)
     refine EL.of (EO.loadSl hS kS59 a2 C67 l65 (Rd.ro 5 rfl) a0 b3 a9 56 66 (by kernel_rfl) (by kernel_rfl) (by kernel_rfl) (by kernel_rfl) ?_)
     intro g4 e3 hS
     refine EL.quick 1 [0, 6, 7, 62, 66, 67] [(0, sv (some a2) C67 l65), (6, ia a0), (7, ia a1), (62, sv a6 a7 a4), (66, sv g4 e3 (l65.getD a0.toNat [])), (67, ia a1)] (by kernel_rfl) ?_
     obtain ⟨g0, rfl⟩ := St.rd_some hS (Rd.ro 0 rfl) d0 b4
     refine EL.of (EO.Y (YO.idx 56 2 g0 (l65.getD a0.toNat []).length e3 .i64 a1 68 (by kernel_rfl) (by kernel_rfl) (by kernel_rfl) (by kernel_rfl) d0 b4) ?_)
     refine EL.of (EO.Y (YO.loadEl hS kS59 g0 e3 (l65.getD a0.toNat []) (Rd.ro 0 rfl) zS59 encS59 encS59_of a1 d0 b4 59 2 0 2 rfl (ag [ia (((l65.getD a0.toNat []).getD a1.toNat zS59).f0), ib (((l65.getD a0.toNat []).getD a1.toNat zS59).f1)]) 69 (by kernel_rfl) (by kernel_rfl) (by kernel_rfl) (by kernel_rfl)) ?_)
     obtain ⟨d8, g9, H⟩ := b1_out H
     have hq := confidantref5_Put.calls g9 hS
     refine EL.of (EO.callD 33 [ag [ia (((l65.getD a0.toNat []).getD a1.toNat zS59).f0), ib (((l65.getD a0.toNat []).getD a1.toNat zS59).f1)]] _ 70 (by kernel_rfl) (by kernel_rfl) (by kernel_rfl) hq ?_)
     rintro v w ⟨f3, f7, rfl, hS⟩
     obtain ⟨g6, H⟩ := ite_in H
     obtain ⟨b8, i4, H⟩ := lt_out H
     refine EL.of (EO.append hS 22 22 5 1 2 (Kd.int .u8) a6 a7 a4 rfl f3 f7 d8 (Rd.own 0 5 rfl) b8 i4 (fun c5 c8 => Ass.own 5 (Kd.int .u8) f3 f7 d8 :: Ass.own 5 (Kd.int .u8) d4 d5 a8 :: Ass.own 5 (Kd.int .u8) c5 c8 b8 :: os) 71 (by kernel_rfl) (by kernel_rfl) (by kernel_rfl) (by kernel_rfl) g6 (fun _ _ => rfl) ?_)
     intro c5 c8 w hS
     refine EL.quick 1 [0, 5, 6, 7] [(0, sv (some a2) C67 l65), (5, sv c5 c8 b8), (6, ia a0), (7, ia a1)] (by kernel_rfl) ?_
     refine EL.done (by kernel_rfl) ?_
     refine EQ.pop ?_
     refine EQ.code ?_
     refine EW.rg (by kernel_rfl) ?_
     refine EL.quick 3 [0, 5, 6, 7] [(0, sv (some a2) C67 l65), (5, sv c5 c8 b8), (6, ia a0), (7, ia (IntKind.i64.wrap (a1 + 1)))] (by kernel_rfl) ?_
     refine EL.done (by kernel_rfl) ?_
     refine EQ.to ?_
     refine EQ.keep [0, 5, 6, 7] [(0, sv (some a2) C67 l65), (5, sv c5 c8 b8), (6, ia a0), (7, ia (IntKind.i64.wrap (a1 + 1)))] (by kernel_rfl) ?_
     exact fun a ha => ⟨n, Nat.lt_succ_self n, b8, IntKind.i64.wrap (a1 + 1), c5, c8, ha, (hS.re [2, 2] [2] rfl (sub_cons 3 rfl (sub_cons 4 rfl (sub_cons 5 rfl (sub_cons 6 rfl (sub_tail (sub_tail (sub_tail (sub_tail (sub_tail (sub_tail (sub_tail (sub_self))))))))))))), H⟩
    rw [if_neg e5] at H
    refine EW.sq (by kernel_rfl) ?_
    refine EW.rg (by kernel_rfl) ?_
    refine EL.quick 2 [2, 3] [(2, sv none 0 ([] : List Int)), (3, ia 24)] (by kernel_rfl) ?_
    refine EL.done (by kernel_rfl) ?_
    refine EQ.code ?_
    refine EW.ret (by kernel_rfl) ?_
    refine EQ.ret ?_
    refine EQ.ret ?_
    refine EQ.ret ?_
    refine EQ.ret ?_
    refine EQ.ret ?_
    refine EQ.ret ?_
    refine EQ.ret ?_
    refine EQ.ret ?_
    refine EQ.ret ?_
    refine EQ.ret ?_
    have hS := St.nilO hS 5 (Kd.int .u8)
    simp only [encS59, sv, Option.some.injEq, Prod.mk.injEq] at H
    obtain ⟨rfl, rfl⟩ := H
    exact EQ.leave (.tuple #[sv none 0 ([] : List Int), ia 24]) (by kernel_rfl) ⟨_, rfl, none, 0, rfl, (hS.re [0] [1, 1] rfl (sub_tail (sub_tail (sub_tail (sub_tail (sub_tail (sub_self)))))))⟩
   rw [if_neg b4] at H
   refine EW.exit (id := 4) (by kernel_rfl) ?_
   refine EQ.exitCode ?_
   refine EQ.exitTo ?_
   refine EQ.exitHere ?_
   refine EQ.pop ?_
   refine EQ.to ?_
   refine EQ.keep [0, 5, 6] [(0, sv (some a2) C67 l65), (5, sv a6 a7 a4), (6, ia a0)] (by kernel_rfl) ?_
   exact fun a ha => ⟨a8, a4, d4, d5, a6, a7, ha, (hS.re [1, 1] [] rfl (sub_cons 3 rfl (sub_cons 4 rfl (sub_tail (sub_tail (sub_tail (sub_tail (sub_tail (sub_self))))))))), H⟩
  obtain ⟨e1, b6, e9, f5, c3, c6, ha, hS, H⟩ := hI
  rw [i1] at H
  (try dsimp only at H)
  refine EW.at ?_ a ha
  clear ha a
  refine EW.rg (by kernel_rfl) ?_
  refine EL.quick 3 [0, 5, 6] [(0, sv A66 C67 l65), (5, sv c3 c6 b6), (6, ia (IntKind.i64.wrap (a0 + 1)))] (by kernel_rfl) ?_
  refine EL.done (by kernel_rfl) ?_
  refine EQ.to ?_
  refine EQ.keep [0, 5, 6] [(0, sv A66 C67 l65), (5, sv c3 c6 b6), (6, ia (IntKind.i64.wrap (a0 + 1)))] (by kernel_rfl) ?_
  exact fun a ha => ⟨n, Nat.lt_succ_self n, b6, IntKind.i64.wrap (a0 + 1), c3, c6, ha, (hS.re [1] [1] rfl (sub_cons 0 rfl (sub_cons 1 rfl (sub_tail (sub_tail (sub_self)))))), H⟩
 rw [if_neg a9] at H
 refine EW.exit (id := 2) (by kernel_rfl) ?_
 refine EQ.exitCode ?_
 refine EQ.exitTo ?_
 refine EQ.exitHere ?_
 refine EQ.code ?_
 refine EW.sq (by kernel_rfl) ?_
 refine EW.rg (by kernel_rfl) ?_
 refine EL.quick 3 [2, 3] [(2, sv b0 b2 a5), (3, ia 0)] (by kernel_rfl) ?_
 refine EL.done (by kernel_rfl) ?_
 refine EQ.code ?_
 refine EW.ret (by kernel_rfl) ?_
 simp only [encS59, sv, Option.some.injEq, Prod.mk.injEq] at H
 obtain ⟨rfl, rfl⟩ := H
 exact EQ.leave (.tuple #[sv b0 b2 a5, ia 0]) (by kernel_rfl) ⟨_, rfl, b0, b2, rfl, (hS.re [0] [] rfl (sub_tail (sub_self)))⟩

/-! ### (*confidant/confidantref1.Reader).fail: function 64 -/
def confidantref1_Reader_fail.f (K : Nat) (a3 : List Int) (a2 : Int) (a0 : Int) : Option (List Int × Int) := some (([] : List Int), a0)
set_option maxRecDepth 100000 in
theorem confidantref1_Reader_fail.calls {K : Nat} {a3 : List Int} {a2 : Int} {a0 : Int} {a1 : Nat} {a4 : Option Addr} {a5 : Nat} {a6 : List Int} {a9 : Int} {B w : World} {os : List Ass} {rs : List Ro} (H : confidantref1_Reader_fail.f K a3 a2 a0 = some (a6, a9)) (hS : St B w (Ass.box 50 a1 [sv a4 a5 a3, ia a2] :: os) (Ro.sl (Kd.int .u8) a4 a5 a3 :: rs)) :
  Calls Tryz.prog 64 [pt a1 0, ia a0].toArray w (fun en w' => ∃ v, en = .returned v ∧ ∃ a7 : Option Addr, ∃ a8 : Nat, v = .tuple #[] ∧ St B w' (Ass.box 50 a1 [sv a7 a8 a6, ia a9] :: Ass.own 5 (Kd.int .u8) a7 a8 a6 :: os) (Ro.sl (Kd.int .u8) a4 a5 a3 :: rs)) := by
 unfold confidantref1_Reader_fail.f at H
 refine calls_of_EW (args := [pt a1 0, ia a0]) (c := Cd64) 11 Tryz.func64 (by kernel_rfl) (by kernel_rfl) (by kernel_rfl) ?_
 refine EW.rg (by kernel_rfl) ?_
 refine EL.quick 5 [5, 6, 8] [(5, pt a1 0), (6, ia a0), (8, pt a1 0)] (by kernel_rfl) ?_
 refine EL.of (EO.storeBox (os' := Ass.box 50 a1 [sv none 0 ([] : List Int), ia a2] :: os) hS 0 rfl 22 0 (sv none 0 ([] : List Int)) [sv none 0 ([] : List Int), ia a2] (by kernel_rfl) (by kernel_rfl) (by kernel_rfl) (by kernel_rfl) (by kernel_rfl) (by kernel_rfl) rfl rfl ?_)
 intro w hS
 refine EL.quick 2 [6, 10] [(6, ia a0), (10, pt a1 1)] (by kernel_rfl) ?_
 refine EL.of (EO.storeBox (os' := Ass.box 50 a1 [sv none 0 ([] : List Int), ia a0] :: os) hS 0 rfl 3 1 (ia a0) [sv none 0 ([] : List Int), ia a0] (by kernel_rfl) (by kernel_rfl) (by kernel_rfl) (by kernel_rfl) (by kernel_rfl) (by kernel_rfl) rfl rfl ?_)
 intro w hS
 refine EL.done (by kernel_rfl) ?_
 have hS := St.nilO hS 5 (Kd.int .u8)
 simp only [sv, Option.some.injEq, Prod.mk.injEq] at H
 obtain ⟨rfl, rfl⟩ := H
 exact EQ.leaveN (.tuple #[]) (by kernel_rfl) ⟨_, rfl, none, 0, rfl, (hS.re [0, 1] [] rfl (sub_self))⟩

/-! ### (*confidant/confidantref1.Reader).Num: function 44 -/
def confidantref1_Reader_Num.l0 (K : Nat) (a1 : List Int) (a6 : Int) (a3 : Int) (b0 : Option (List Int × Int × Int)) : Nat → Int → Int → Option (List Int × Int × Int)
 | 0, _, _ => none
 | n + 1, a4, a0 => if a0 < (a1.length : Int) then (if 0 ≤ a0 then (lt (fun (b5 : Bool) => (if b5 = true then (b2 (confidantref1_Reader_fail.f K a1 a6 20) fun (d0 : List Int) (d1 : Int) => (some (d0, d1, 0))) else (lt (bO .u64 (sL .u64 a4 7) (IntKind.u64.wrap (bA .u8 (a1.getD a0.toNat 0) 127))) fun a7 => (if (a1.getD a0.toNat 0) < 128 then (if a7 > a3 then (b2 (confidantref1_Reader_fail.f K a1 a6 22) fun (d2 : List Int) (d3 : Int) => (some (d2, d3, 0))) else (if 0 ≤ (IntKind.i64.wrap (a0 + 1)) then (if (IntKind.i64.wrap (a0 + 1)) ≤ (a1.length : Int) then (lt (a1.drop ((IntKind.i64.wrap (a0 + 1)).toNat)) fun b1 => (some (b1, a6, a7))) else none) else none)) else (confidantref1_Reader_Num.l0 K a1 a6 a3 b0 n a7 (IntKind.i64.wrap (a0 + 1))))))) fun b8 => (if a0 = 0 then (if (a1.getD a0.toNat 0) = 128 then (b8 true) else (b8 (decide (a4 > 144115188075855871)))) else (b8 (decide (a4 > 144115188075855871))))) else none) else (b0)
def confidantref1_Reader_Num.f (K : Nat) (a1 : List Int) (a6 : Int) (a3 : Int) : Option (List Int × Int × Int) := if a6 = 0 then (lt (b2 (confidantref1_Reader_fail.f K a1 a6 21) fun (d4 : List Int) (d5 : Int) => (some (d4, d5, 0))) fun b0 => (confidantref1_Reader_Num.l0 K a1 a6 a3 b0 K 0 0)) else (some (a1, a6, 0))
set_option maxRecDepth 100000 in
theorem confidantref1_Reader_Num.calls {K : Nat} {a1 : List Int} {a6 : Int} {a3 : Int} {a2 : Nat} {a8 : Option Addr} {a5 : Nat} {b4 : List Int} {b9 : Int} {c0 : Int} {B w : World} {os : List Ass} {rs : List Ro} (H : confidantref1_Reader_Num.f K a1 a6 a3 = some (b4, b9, c0)) (hS : St B w (Ass.box 50 a2 [sv a8 a5 a1, ia a6] :: os) (Ro.sl (Kd.int .u8) a8 a5 a1 :: rs)) :
  Calls Tryz.prog 44 [pt a2 0, ic a3].toArray w (fun en w' => ∃ v, en = .returned v ∧ ∃ c8 : Option Addr, ∃ c9 : Nat, v = ic c0 ∧ St B w' (Ass.box 50 a2 [sv c8 c9 b4, ia b9] :: os) (Ro.sl (Kd.int .u8) c8 c9 b4 :: Ro.sl (Kd.int .u8) a8 a5 a1 :: rs)) := by
 unfold confidantref1_Reader_Num.f at H
 refine calls_of_EW (args := [pt a2 0, ic a3]) (c := Cd44) 67 Tryz.func44 (by kernel_rfl) (by kernel_rfl) (by kernel_rfl) ?_
 refine EW.sq (by kernel_rfl) ?_
 refine EW.rg (by kernel_rfl) ?_
 refine EL.quick 1 [0, 1] [(0, pt a2 0), (1, ic a3)] (by kernel_rfl) ?_
 refine EL.done (by kernel_rfl) ?_
 refine EQ.code ?_
 refine EW.sq (by kernel_rfl) ?_
 refine EW.sq (by kernel_rfl) ?_
 refine EW.rg (by kernel_rfl) ?_
 refine EL.quick 3 [0, 1, 10] [(0, pt a2 0), (1, ic a3), (10, pt a2 1)] (by kernel_rfl) ?_
 refine EL.of (EO.Y (YO.loadBox hS 0 rfl 3 1 1 (ia a6) 11 (by kernel_rfl) (by kernel_rfl) (by kernel_rfl) (by kernel_rfl)) ?_)
 refine EL.quick 1 [0, 1, 12] [(0, pt a2 0), (1, ic a3), (12, .bool (!(decide (a6 = 0))))] (by kernel_rfl) ?_
 refine EL.done (by kernel_rfl) ?_
 refine EQ.code ?_
 refine EW.cdQ (b := !(decide (a6 = 0))) (a6 = 0) (false) (by kernel_rfl) (by kernel_rfl) ⟨fun h => (by rw [decide_eq_true h] <;> rfl), fun h => (by rw [decide_eq_false h] <;> rfl)⟩ (fun c3 => ?_) (fun c3 => ?_)
 ·rw [if_pos c3] at H
  refine EW.skip (by kernel_rfl) ?_
  refine EQ.code ?_
  refine EW.sq (by kernel_rfl) ?_
  refine EW.rg (by kernel_rfl) ?_
  refine EL.quick 1 [0, 1, 5] [(0, pt a2 0), (1, ic a3), (5, ic 0)] (by kernel_rfl) ?_
  refine EL.done (by kernel_rfl) ?_
  refine EQ.code ?_
  obtain ⟨b0, e5, H⟩ := lt_out H
  refine EW.ct (fun a w => Sat 67 [(0, pt a2 0)] a ∧ St B w (Ass.box 50 a2 [sv a8 a5 a1, ia a6] :: os) (Ro.sl (Kd.int .u8) a8 a5 a1 :: rs) ∧ b0 = some (b4, b9, c0)) (by kernel_rfl) ?_ (fun a w hI => ?_)
  ·refine EW.sq (by kernel_rfl) ?_
   refine EW.rg (by kernel_rfl) ?_
   refine EL.quick 1 [0, 1, 5, 6] [(0, pt a2 0), (1, ic a3), (5, ic 0), (6, ia 0)] (by kernel_rfl) ?_
   refine EL.done (by kernel_rfl) ?_
   refine EQ.code ?_
   refine EW.bl 0 (by kernel_rfl) ?_
   refine EW.lp (fun n a w => ∃ a4 : Int, ∃ a0 : Int, Sat 67 [(0, pt a2 0), (1, ic a3), (5, ic a4), (6, ia a0)] a ∧ St B w (Ass.box 50 a2 [sv a8 a5 a1, ia a6] :: os) (Ro.sl (Kd.int .u8) a8 a5 a1 :: rs) ∧ confidantref1_Reader_Num.l0 K a1 a6 a3 b0 n a4 a0 = some (b4, b9, c0)) K (by kernel_rfl) ?_ (fun n a w hI => ?_)
   ·refine EQ.keep [0, 1, 5, 6] [(0, pt a2 0), (1, ic a3), (5, ic 0), (6, ia 0)] (by kernel_rfl) ?_
    exact fun a ha => ⟨0, 0, ha, (hS.re [0] [] rfl (sub_cons 0 rfl (sub_tail (sub_self)))), H⟩
   obtain ⟨a4, a0, ha, hS, H⟩ := hI
   obtain _ | n := n
   ·simp [confidantref1_Reader_Num.l0] at H
   rw [confidantref1_Reader_Num.l0.eq_2] at H
   refine EW.at ?_ a ha
   clear ha a
   refine EW.sq (by kernel_rfl) ?_
   refine EW.sq (by kernel_rfl) ?_
   refine EW.rg (by kernel_rfl) ?_
   refine EL.quick 4 [0, 1, 5, 6, 13, 16] [(0, pt a2 0), (1, ic a3), (5, ic a4), (6, ia a0), (13, ia a0), (16, pt a2 0)] (by kernel_rfl) ?_
   refine EL.of (EO.Y (YO.loadBox hS 0 rfl 22 0 1 (sv a8 a5 a1) 17 (by kernel_rfl) (by kernel_rfl) (by kernel_rfl) (by kernel_rfl)) ?_)
   refine EL.quick 2 [0, 1, 5, 6, 19] [(0, pt a2 0), (1, ic a3), (5, ic a4), (6, ia a0), (19, .bool (decide (a0 < (a1.length : Int))))] (by kernel_rfl) ?_
   refine EL.done (by kernel_rfl) ?_
   refine EQ.code ?_
   refine EW.cdP (a0 < (a1.length : Int)) (by kernel_rfl) (by kernel_rfl) (fun b3 => ?_) (fun b3 => ?_)
   ·rw [if_pos b3] at H
    refine EW.skip (by kernel_rfl) ?_
    refine EQ.code ?_
    refine EW.sq (by kernel_rfl) ?_
    refine EW.bl 1 (by kernel_rfl) ?_
    refine EW.sq (by kernel_rfl) ?_
    refine EW.rg (by kernel_rfl) ?_
    refine EL.quick 3 [0, 1, 5, 6, 24] [(0, pt a2 0), (1, ic a3), (5, ic a4), (6, ia a0), (24, pt a2 0)] (by kernel_rfl) ?_
    refine EL.of (EO.Y (YO.loadBox hS 0 rfl 22 0 1 (sv a8 a5 a1) 25 (by kernel_rfl) (by kernel_rfl) (by kernel_rfl) (by kernel_rfl)) ?_)
    refine EL.quick 1 [0, 1, 5, 6, 25, 26] [(0, pt a2 0), (1, ic a3), (5, ic a4), (6, ia a0), (25, sv a8 a5 a1), (26, ia a0)] (by kernel_rfl) ?_
    obtain ⟨c4, H⟩ := ite_in H
    obtain ⟨a9, rfl⟩ := St.rd_some hS (Rd.ro 0 rfl) c4 b3
    refine EL.of (EO.Y (YO.idx 22 1 a9 a1.length a5 .i64 a0 27 (by kernel_rfl) (by kernel_rfl) (by kernel_rfl) (by kernel_rfl) c4 b3) ?_)
    refine EL.of (EO.Y (YO.loadEl hS (Kd.int .u8) a9 a5 a1 (Rd.ro 0 rfl) 0 (encI .u8) encI_of a0 c4 b3 5 1 0 1 rfl (ig (a1.getD a0.toNat 0)) 28 (by kernel_rfl) (by kernel_rfl) (by kernel_rfl) (by kernel_rfl)) ?_)
    refine EL.quick 1 [0, 1, 5, 6, 7] [(0, pt a2 0), (1, ic a3), (5, ic a4), (6, ia a0), (7, ig (a1.getD a0.toNat 0))] (by kernel_rfl) ?_
    refine EL.done (by kernel_rfl) ?_
    refine EQ.code ?_
    refine EW.sq (by kernel_rfl) ?_
    obtain ⟨b8, e6, H⟩ := lt_out H
    refine EW.ct (fun a w => ∃ b5 : Bool, Sat 67 [(0, pt a2 0), (1, ic a3), (5, ic a4), (6, ia a0), (7, ig (a1.getD a0.toNat 0)), (38, .bool (b5))] a ∧ St B w (Ass.box 50 a2 [sv (some a9) a5 a1, ia a6] :: os) (Ro.sl (Kd.int .u8) (some a9) a5 a1 :: rs) ∧ b8 b5 = some (b4, b9, c0)) (by kernel_rfl) ?_ (fun a w hI => ?_)
    ·refine EW.rg (by kernel_rfl) ?_
     refine EL.quick 3 [0, 1, 5, 6, 7, 31] [(0, pt a2 0), (1, ic a3), (5, ic a4), (6, ia a0), (7, ig (a1.getD a0.toNat 0)), (31, .bool (decide (a0 = 0)))] (by kernel_rfl) ?_
     by_cases c1 : a0 = 0
     ·rw [if_pos c1] at H
      refine EL.keep [0, 1, 5, 6, 7, 31] [(0, pt a2 0), (1, ic a3), (5, ic a4), (6, ia a0), (7, ig (a1.getD a0.toNat 0)), (31, .bool (decide (a0 = 0)))] (by kernel_rfl) ?_
      refine EL.as' [(0, pt a2 0), (1, ic a3), (5, ic a4), (6, ia a0), (7, ig (a1.getD a0.toNat 0)), (31, .bool (true))] (by simp only [sv, dec_t c1, Bool.not_true, Bool.not_false]) ?_
      refine EL.quick 4 [0, 1, 5, 6, 7, 32, 33, 35] [(0, pt a2 0), (1, ic a3), (5, ic a4), (6, ia a0), (7, ig (a1.getD a0.toNat 0)), (32, ig (a1.getD a0.toNat 0)), (33, .bool (decide ((a1.getD a0.toNat 0) = 128))), (35, .bool (decide ((a1.getD a0.toNat 0) = 128)))] (by kernel_rfl) ?_
      by_cases c2 : (a1.getD a0.toNat 0) = 128
      ·rw [if_pos c2] at H
       refine EL.keep [0, 1, 5, 6, 7, 32, 33, 35] [(0, pt a2 0), (1, ic a3), (5, ic a4), (6, ia a0), (7, ig (a1.getD a0.toNat 0)), (32, ig (a1.getD a0.toNat 0)), (33, .bool (decide ((a1.getD a0.toNat 0) = 128))), (35, .bool (decide ((a1.getD a0.toNat 0) = 128)))] (by kernel_rfl) ?_
       refine EL.as' [(0, pt a2 0), (1, ic a3), (5, ic a4), (6, ia a0), (7, ig (a1.getD a0.toNat 0)), (32, ig (a1.getD a0.toNat 0)), (33, .bool (true)), (35, .bool (true))] (by simp only [sv, dec_t c2, Bool.not_true, Bool.not_false]) ?_
       refine EL.quick 3 [0, 1, 5, 6, 7, 32, 33, 38] [(0, pt a2 0), (1, ic a3), (5, ic a4), (6, ia a0), (7, ig (a1.getD a0.toNat 0)), (32, ig (a1.getD a0.toNat 0)), (33, .bool (true)), (38, .bool (true))] (by kernel_rfl) ?_
       refine EL.done (by kernel_rfl) ?_
       refine EQ.to ?_
       refine EQ.keep [0, 1, 5, 6, 7, 38] [(0, pt a2 0), (1, ic a3), (5, ic a4), (6, ia a0), (7, ig (a1.getD a0.toNat 0)), (38, .bool (true))] (by kernel_rfl) ?_
       exact fun a ha => ⟨true, ha, (hS.re [0] [] rfl (sub_cons 0 rfl (sub_tail (sub_self)))), H⟩
      rw [if_neg c2] at H
      refine EL.keep [0, 1, 5, 6, 7, 32, 33, 35] [(0, pt a2 0), (1, ic a3), (5, ic a4), (6, ia a0), (7, ig (a1.getD a0.toNat 0)), (32, ig (a1.getD a0.toNat 0)), (33, .bool (decide ((a1.getD a0.toNat 0) = 128))), (35, .bool (decide ((a1.getD a0.toNat 0) = 128)))] (by kernel_rfl) ?_
      refine EL.as' [(0, pt a2 0), (1, ic a3), (5, ic a4), (6, ia a0), (7, ig (a1.getD a0.toNat 0)), (32, ig (a1.getD a0.toNat 0)), (33, .bool (false)), (35, .bool (false))] (by simp only [sv, dec_f c2, Bool.not_true, Bool.not_false]) ?_
      refine EL.quick 3 [0, 1, 5, 6, 7, 32, 33, 36, 37, 38] [(0, pt a2 0), (1, ic a3), (5, ic a4), (6, ia a0), (7, ig (a1.getD a0.toNat 0)), (32, ig (a1.getD a0.toNat 0)), (33, .bool (false)), (36, ic a4), (37, .bool (decide (a4 > 144115188075855871))), (38, .bool (decide (a4 > 144115188075855871)))] (by kernel_rfl) ?_
      refine EL.done (by kernel_rfl) ?_
      refine EQ.to ?_
      refine EQ.keep [0, 1, 5, 6, 7, 38] [(0, pt a2 0), (1, ic a3), (5, ic a4), (6, ia a0), (7, ig (a1.getD a0.toNat 0)), (38, .bool (decide (a4 > 144115188075855871)))] (by kernel_rfl) ?_
      exact fun a ha => ⟨decide (a4 > 144115188075855871), ha, (hS.re [0] [] rfl (sub_cons 0 rfl (sub_tail (sub_self)))), H⟩
     rw [if_neg c1] at H
     refine EL.keep [0, 1, 5, 6, 7, 31] [(0, pt a2 0), (1, ic a3), (5, ic a4), (6, ia a0), (7, ig (a1.getD a0.toNat 0)), (31, .bool (decide (a0 = 0)))] (by kernel_rfl) ?_
     refine EL.as' [(0, pt a2 0), (1, ic a3), (5, ic a4), (6, ia a0), (7, ig (a1.getD a0.toNat 0)), (31, .bool (false))] (by simp only [sv, dec_f c1, Bool.not_true, Bool.not_false]) ?_
     refine EL.quick 7 [0, 1, 5, 6, 7, 36, 37, 38] [(0, pt a2 0), (1, ic a3), (5, ic a4), (6, ia a0), (7, ig (a1.getD a0.toNat 0)), (36, ic a4), (37, .bool (decide (a4 > 144115188075855871))), (38, .bool (decide (a4 > 144115188075855871)))] (by kernel_rfl) ?_
     refine EL.done (by kernel_rfl) ?_
     refine EQ.to ?_
     refine EQ.keep [0, 1, 5, 6, 7, 38] [(0, pt a2 0), (1, ic a3), (5, ic a4), (6, ia a0), (7, ig (a1.getD a0.toNat 0)), (38, .bool (decide (a4 > 144115188075855871)))] (by kernel_rfl) ?_
     exact fun a ha => ⟨decide (a4 > 144115188075855871), ha, (hS.re [0] [] rfl (sub_cons 0 rfl (sub_tail (sub_self)))), H⟩
    obtain ⟨b5, ha, hS, H⟩ := hI
    rw [e6] at H
    (try dsimp only at H)
    refine EW.at ?_ a ha
    clear ha a
    refine EW.cdP' (b5) (by kernel_rfl) (by kernel_rfl) (fun c5 => ?_) (fun c5 => ?_)
    ·rw [if_pos c5] at H
     refine EW.sq (by kernel_rfl) ?_
     refine EW.rg (by kernel_rfl) ?_
     refine EL.quick 1 [39] [(39, pt a2 0)] (by kernel_rfl) ?_
     have hS : St B _ (Ass.box 50 a2 [sv (some a9) a5 a1, ia a6] :: os) (Ro.sl (Kd.int .u8) (some a9) a5 a1 :: rs) := hS.re [0] [] rfl (sub_cons 0 rfl (sub_tail (sub_self)))
     obtain ⟨d0, d1, e2, H⟩ := b2_out H
     have hq := confidantref1_Reader_fail.calls e2 hS
     refine EL.of (EO.callD 64 [pt a2 0, ia 20] _ 40 (by kernel_rfl) (by kernel_rfl) (by kernel_rfl) hq ?_)
     rintro v w ⟨d6, d9, rfl, hS⟩
     refine EL.done (by kernel_rfl) ?_
     refine EQ.code ?_
     refine EW.sq (by kernel_rfl) ?_
     refine EW.rg (by kernel_rfl) ?_
     refine EL.quick 1 [4] [(4, ic 0)] (by kernel_rfl) ?_
     refine EL.done (by kernel_rfl) ?_
     refine EQ.code ?_
     refine EW.ret (by kernel_rfl) ?_
     refine EQ.ret ?_
     refine EQ.ret ?_
     refine EQ.ret ?_
     refine EQ.ret ?_
     refine EQ.ret ?_
     refine EQ.ret ?_
     have hS := St.fr hS 1 rfl
     simp only [sv, Option.some.injEq, Prod.mk.injEq] at H
     obtain ⟨rfl, rfl, rfl⟩ := H
     exact EQ.leave (ic 0) (by kernel_rfl) ⟨_, rfl, d6, d9, rfl, (hS.re [0] [] rfl (sub_cons 0 rfl (sub_tail (sub_self))))⟩
    rw [if_neg c5] at H
    refine EW.skip (by kernel_rfl) ?_
    refine EQ.code ?_
    refine EW.sq (by kernel_rfl) ?_
    refine EW.rg (by kernel_rfl) ?_
    refine EL.quick 7 [0, 1, 5, 6, 7] [(0, pt a2 0), (1, ic a3), (5, ic (bO .u64 (sL .u64 a4 7) (IntKind.u64.wrap (bA .u8 (a1.getD a0.toNat 0) 127)))), (6, ia a0), (7, ig (a1.getD a0.toNat 0))] (by kernel_rfl) ?_
    obtain ⟨a7, e8, H⟩ := lt_out H
    refine EL.keep [0, 1, 5, 6, 7] [(0, pt a2 0), (1, ic a3), (5, ic (bO .u64 (sL .u64 a4 7) (IntKind.u64.wrap (bA .u8 (a1.getD a0.toNat 0) 127)))), (6, ia a0), (7, ig (a1.getD a0.toNat 0))] (by kernel_rfl) ?_
    refine EL.as' [(0, pt a2 0), (1, ic a3), (5, ic a7), (6, ia a0), (7, ig (a1.getD a0.toNat 0))] (by subst e8; rfl) ?_
    refine EL.done (by kernel_rfl) ?_
    refine EQ.code ?_
    refine EW.sq (by kernel_rfl) ?_
    refine EW.rg (by kernel_rfl) ?_
    refine EL.quick 2 [0, 1, 5, 6, 48] [(0, pt a2 0), (1, ic a3), (5, ic a7), (6, ia a0), (48, .bool (decide ((a1.getD a0.toNat 0) < 128)))] (by kernel_rfl) ?_
    refine EL.done (by kernel_rfl) ?_
    refine EQ.code ?_
    refine EW.cdP ((a1.getD a0.toNat 0) < 128) (by kernel_rfl) (by kernel_rfl) (fun c6 => ?_) (fun c6 => ?_)
    ·rw [if_pos c6] at H
     refine EW.sq (by kernel_rfl) ?_
     refine EW.sq (by kernel_rfl) ?_
     refine EW.rg (by kernel_rfl) ?_
     refine EL.quick 3 [0, 5, 6, 51] [(0, pt a2 0), (5, ic a7), (6, ia a0), (51, .bool (decide (a7 > a3)))] (by kernel_rfl) ?_
     refine EL.done (by kernel_rfl) ?_
     refine EQ.code ?_
     refine EW.cdP (a7 > a3) (by kernel_rfl) (by kernel_rfl) (fun c7 => ?_) (fun c7 => ?_)
     ·rw [if_pos c7] at H
      refine EW.sq (by kernel_rfl) ?_
      refine EW.rg (by kernel_rfl) ?_
      refine EL.quick 1 [52] [(52, pt a2 0)] (by kernel_rfl) ?_
      have hS : St B _ (Ass.box 50 a2 [sv (some a9) a5 a1, ia a6] :: os) (Ro.sl (Kd.int .u8) (some a9) a5 a1 :: rs) := hS.re [0] [] rfl (sub_cons 0 rfl (sub_tail (sub_self)))
      obtain ⟨d2, d3, e3, H⟩ := b2_out H
      have hq := confidantref1_Reader_fail.calls e3 hS
      refine EL.of (EO.callD 64 [pt a2 0, ia 22] _ 53 (by kernel_rfl) (by kernel_rfl) (by kernel_rfl) hq ?_)
      rintro v w ⟨d7, e0, rfl, hS⟩
      refine EL.done (by kernel_rfl) ?_
      refine EQ.code ?_
      refine EW.sq (by kernel_rfl) ?_
      refine EW.rg (by kernel_rfl) ?_
      refine EL.quick 1 [4] [(4, ic 0)] (by kernel_rfl) ?_
      refine EL.done (by kernel_rfl) ?_
      refine EQ.code ?_
      refine EW.ret (by kernel_rfl) ?_
      refine EQ.ret ?_
      refine EQ.ret ?_
      refine EQ.ret ?_
      refine EQ.ret ?_
      refine EQ.ret ?_
      refine EQ.ret ?_
      have hS := St.fr hS 1 rfl
      simp only [sv, Option.some.injEq, Prod.mk.injEq] at H
      obtain ⟨rfl, rfl, rfl⟩ := H
      exact EQ.leave (ic 0) (by kernel_rfl) ⟨_, rfl, d7, e0, rfl, (hS.re [0] [] rfl (sub_cons 0 rfl (sub_tail (sub_self))))⟩
     rw [if_neg c7] at H
     refine EW.skip (by kernel_rfl) ?_
     refine EQ.code ?_
     refine EW.sq (by kernel_rfl) ?_
     refine EW.rg (by kernel_rfl) ?_
     refine EL.quick 4 [5, 6, 54, 57] [(5, ic a7), (6, ia a0), (54, pt a2 0), (57, pt a2 0)] (by kernel_rfl) ?_
     refine EL.of (EO.Y (YO.loadBox hS 0 rfl 22 0 1 (sv (some a9) a5 a1) 58 (by kernel_rfl) (by kernel_rfl) (by kernel_rfl) (by kernel_rfl)) ?_)
     refine EL.quick 2 [5, 54, 58, 60] [(5, ic a7), (54, pt a2 0), (58, sv (some a9) a5 a1), (60, ia (IntKind.i64.wrap (a0 + 1)))] (by kernel_rfl) ?_
     obtain ⟨e9, H⟩ := ite_in H
     obtain ⟨f0, H⟩ := ite_in H
     obtain ⟨b1, e7, H⟩ := lt_out H
     refine EL.of (EO.sliceRo hS (Kd.int .u8) (some a9) a5 a1 0 rfl (some (ia (IntKind.i64.wrap (a0 + 1)))) none none ((IntKind.i64.wrap (a0 + 1)).toNat) a1.length a5 b1 (by rw [e7]; exact (slice_lo _ _)) 22 61 (by kernel_rfl) (by kernel_rfl) (by kernel_rfl) (by kernel_rfl) ((Int.toNat_of_nonneg (by omega)).symm) (rfl) ⟨rfl, fun h => by first | rfl | cases h⟩ (by omega) (by omega) (.inl rfl) ?_)
     intro b6 b7 hS
     refine EL.quick 2 [5, 61, 63] [(5, ic a7), (61, sv b6 b7 b1), (63, pt a2 0)] (by kernel_rfl) ?_
     refine EL.of (EO.storeBox (os' := Ass.box 50 a2 [sv b6 b7 b1, ia a6] :: os) hS 0 rfl 22 0 (sv b6 b7 b1) [sv b6 b7 b1, ia a6] (by kernel_rfl) (by kernel_rfl) (by kernel_rfl) (by kernel_rfl) (by kernel_rfl) (by kernel_rfl) rfl rfl ?_)
     intro w hS
     refine EL.done (by kernel_rfl) ?_
     refine EQ.code ?_
     refine EW.sq (by kernel_rfl) ?_
     refine EW.rg (by kernel_rfl) ?_
     refine EL.quick 2 [4] [(4, ic a7)] (by kernel_rfl) ?_
     refine EL.done (by kernel_rfl) ?_
     refine EQ.code ?_
     refine EW.ret (by kernel_rfl) ?_
     refine EQ.ret ?_
     refine EQ.ret ?_
     refine EQ.ret ?_
     refine EQ.ret ?_
     refine EQ.ret ?_
     simp only [sv, Option.some.injEq, Prod.mk.injEq] at H
     obtain ⟨rfl, rfl, rfl⟩ := H
     exact EQ.leave (ic a7) (by kernel_rfl) ⟨_, rfl, b6, b7, rfl, (hS.re [0] [] rfl (sub_cons 0 rfl (sub_tail (sub_self))))⟩
    rw [if_neg c6] at H
    refine EW.skip (by kernel_rfl) ?_
    refine EQ.pop ?_
    refine EQ.code ?_
    refine EW.rg (by kernel_rfl) ?_
    refine EL.quick 3 [0, 1, 5, 6] [(0, pt a2 0), (1, ic a3), (5, ic a7), (6, ia (IntKind.i64.wrap (a0 + 1)))] (by kernel_rfl) ?_
    refine EL.done (by kernel_rfl) ?_
    refine EQ.to ?_
    refine EQ.keep [0, 1, 5, 6] [(0, pt a2 0), (1, ic a3), (5, ic a7), (6, ia (IntKind.i64.wrap (a0 + 1)))] (by kernel_rfl) ?_
    exact fun a ha => ⟨n, Nat.lt_succ_self n, a7, IntKind.i64.wrap (a0 + 1), ha, (hS.re [0] [] rfl (sub_cons 0 rfl (sub_tail (sub_self)))), H⟩
   rw [if_neg b3] at H
   refine EW.exit (id := 0) (by kernel_rfl) ?_
   refine EQ.exitCode ?_
   refine EQ.exitTo ?_
   refine EQ.exitHere ?_
   refine EQ.to ?_
   refine EQ.keep [0] [(0, pt a2 0)] (by kernel_rfl) ?_
   exact fun a ha => ⟨ha, (hS.re [0] [] rfl (sub_cons 0 rfl (sub_tail (sub_self)))), H⟩
  obtain ⟨ha, hS, H⟩ := hI
  rw [e5] at H
  (try dsimp only at H)
  refine EW.at ?_ a ha
  clear ha a
  refine EW.sq (by kernel_rfl) ?_
  refine EW.rg (by kernel_rfl) ?_
  refine EL.quick 1 [65] [(65, pt a2 0)] (by kernel_rfl) ?_
  have hS : St B _ (Ass.box 50 a2 [sv a8 a5 a1, ia a6] :: os) (Ro.sl (Kd.int .u8) a8 a5 a1 :: rs) := hS.re [0] [] rfl (sub_cons 0 rfl (sub_tail (sub_self)))
  obtain ⟨d4, d5, e4, H⟩ := b2_out H
  have hq := confidantref1_Reader_fail.calls e4 hS
  refine EL.of (EO.callD 64 [pt a2 0, ia 21] _ 66 (by kernel_rfl) (by kernel_rfl) (by kernel_rfl) hq ?_)
  rintro v w ⟨d8, e1, rfl, hS⟩
  refine EL.done (by kernel_rfl) ?_
  refine EQ.code ?_
  refine EW.sq (by kernel_rfl) ?_
  refine EW.rg (by kernel_rfl) ?_
  refine EL.quick 1 [4] [(4, ic 0)] (by kernel_rfl) ?_
  refine EL.done (by kernel_rfl) ?_
  refine EQ.code ?_
  refine EW.ret (by kernel_rfl) ?_
  have hS := St.fr hS 1 rfl
  simp only [sv, Option.some.injEq, Prod.mk.injEq] at H
  obtain ⟨rfl, rfl, rfl⟩ := H
  exact EQ.leave (ic 0) (by kernel_rfl) ⟨_, rfl, d8, e1, rfl, (hS.re [0] [] rfl (sub_cons 0 rfl (sub_tail (sub_self))))⟩
 rw [if_neg c3] at H
 refine EW.sq (by kernel_rfl) ?_
 refine EW.rg (by kernel_rfl) ?_
 refine EL.quick 1 [4] [(4, ic 0)] (by kernel_rfl) ?_
 refine EL.done (by kernel_rfl) ?_
 refine EQ.code ?_
 refine EW.ret (by kernel_rfl) ?_
 refine EQ.ret ?_
 simp only [sv, Option.some.injEq, Prod.mk.injEq] at H
 obtain ⟨rfl, rfl, rfl⟩ := H
 exact EQ.leave (ic 0) (by kernel_rfl) ⟨_, rfl, a8, a5, rfl, (hS.re [0] [] rfl (sub_cons 0 rfl (sub_self)))⟩

/-! ### (*confidant/confidantref1.Reader).Word: function 65 -/
def confidantref1_Reader_Word.f (K : Nat) (a1 : List Int) (a4 : Int) : Option (List Int × Int × Int) := b3 (confidantref1_Reader_Num.f K a1 a4 4294967295) fun (a9 : List Int) (b0 : Int) (a5 : Int) => (some (a9, b0, IntKind.i32.wrap (IntKind.u32.wrap a5)))
set_option maxRecDepth 100000 in
theorem confidantref1_Reader_Word.calls {K : Nat} {a1 : List Int} {a4 : Int} {a0 : Nat} {a2 : Option Addr} {a3 : Nat} {a6 : List Int} {b1 : Int} {b2 : Int} {B w : World} {os : List Ass} {rs : List Ro} (H : confidantref1_Reader_Word.f K a1 a4 = some (a6, b1, b2)) (hS : St B w (Ass.box 50 a0 [sv a2 a3 a1, ia a4] :: os) (Ro.sl (Kd.int .u8) a2 a3 a1 :: rs)) :
  Calls Tryz.prog 65 [pt a0 0].toArray w (fun en w' => ∃ v, en = .returned v ∧ ∃ a7 : Option Addr, ∃ a8 : Nat, v = ib b2 ∧ St B w' (Ass.box 50 a0 [sv a7 a8 a6, ia b1] :: os) (Ro.sl (Kd.int .u8) a7 a8 a6 :: Ro.sl (Kd.int .u8) a2 a3 a1 :: rs)) := by
 unfold confidantref1_Reader_Word.f at H
 refine calls_of_EW (args := [pt a0 0]) (c := Cd65) 7 Tryz.func65 (by kernel_rfl) (by kernel_rfl) (by kernel_rfl) ?_
 refine EW.sq (by kernel_rfl) ?_
 refine EW.rg (by kernel_rfl) ?_
 refine EL.quick 1 [0] [(0, pt a0 0)] (by kernel_rfl) ?_
 refine EL.done (by kernel_rfl) ?_
 refine EQ.code ?_
 refine EW.sq (by kernel_rfl) ?_
 refine EW.rg (by kernel_rfl) ?_
 refine EL.quick 1 [3] [(3, pt a0 0)] (by kernel_rfl) ?_
 have hS : St B _ (Ass.box 50 a0 [sv a2 a3 a1, ia a4] :: os) (Ro.sl (Kd.int .u8) a2 a3 a1 :: rs) := hS.re [0] [] rfl (sub_cons 0 rfl (sub_tail (sub_self)))
 obtain ⟨a9, b0, a5, b6, H⟩ := b3_out H
 have hq := confidantref1_Reader_Num.calls b6 hS
 refine EL.of (EO.callD 44 [pt a0 0, ic 4294967295] _ 4 (by kernel_rfl) (by kernel_rfl) (by kernel_rfl) hq ?_)
 rintro v w ⟨b4, b5, rfl, hS⟩
 refine EL.quick 3 [2] [(2, ib (IntKind.i32.wrap (IntKind.u32.wrap a5)))] (by kernel_rfl) ?_
 refine EL.done (by kernel_rfl) ?_
 refine EQ.code ?_
 refine EW.ret (by kernel_rfl) ?_
 simp only [sv, Option.some.injEq, Prod.mk.injEq] at H
 obtain ⟨rfl, rfl, rfl⟩ := H
 exact EQ.leave (ib (IntKind.i32.wrap (IntKind.u32.wrap a5))) (by kernel_rfl) ⟨_, rfl, b4, b5, rfl, (hS.re [0] [] rfl (sub_cons 0 rfl (sub_tail (sub_self))))⟩

/-! ### confidant/confidantref5.Take: function 45 -/
def confidantref5_Take.f (K : Nat) (a6 : List Int) (c0 : Int) : Option (List Int × Int × Int × Int × Bool) := b3 (confidantref1_Reader_Num.f K a6 c0 26) fun (b0 : List Int) (b8 : Int) (a3 : Int) => (lt (fun (a7 : List Int) (a5 : Int) (a4 : Int) => (lt (fun (b9 : Bool) => (if b9 = true then (some (a7, a5, 0, 0, false)) else (some (a7, a5, IntKind.i64.wrap a3, a4, true)))) fun c5 => (if a5 = 0 then (b1 (confidantref5_Right.f K (IntKind.i64.wrap a3) a4) fun (c1 : Bool) => (c5 (!(c1)))) else (c5 true)))) fun c4 => (b1 (confidantref5_Arg.f K (IntKind.i64.wrap a3)) fun (c6 : Int) => (if c6 > 0 then (b3 (confidantref1_Reader_Word.f K b0 b8) fun (c7 : List Int) (c8 : Int) (b5 : Int) => (c4 c7 c8 b5)) else (c4 b0 b8 0))))
set_option maxRecDepth 100000 in
theorem confidantref5_Take.calls {K : Nat} {a6 : List Int} {c0 : Int} {a2 : Nat} {b2 : Option Addr} {b4 : Nat} {c2 : List Int} {c9 : Int} {d0 : Int} {d1 : Int} {d2 : Bool} {B w : World} {os : List Ass} {rs : List Ro} (H : confidantref5_Take.f K a6 c0 = some (c2, c9, d0, d1, d2)) (hS : St B w (Ass.box 50 a2 [sv b2 b4 a6, ia c0] :: os) (Ro.sl (Kd.int .u8) b2 b4 a6 :: rs)) :
  Calls Tryz.prog 45 [pt a2 0].toArray w (fun en w' => ∃ v, en = .returned v ∧ ∃ d5 : Option Addr, ∃ d7 : Nat, v = .tuple #[ag [ia d0, ib d1], .bool (d2)] ∧ St B w' (Ass.box 50 a2 [sv d5 d7 c2, ia c9] :: os) (Ro.sl (Kd.int .u8) d5 d7 c2 :: Ro.sl (Kd.int .u8) b2 b4 a6 :: rs)) := by
 unfold confidantref5_Take.f at H
 refine calls_of_EW (args := [pt a2 0]) (c := Cd45) 28 Tryz.func45 (by kernel_rfl) (by kernel_rfl) (by kernel_rfl) ?_
 refine EW.sq (by kernel_rfl) ?_
 refine EW.rg (by kernel_rfl) ?_
 refine EL.of (EO.alloc hS 59 (ag [ia 0, ib 0]) [ia 0, ib 0] 2 (by kernel_rfl) (by kernel_rfl) (by kernel_rfl) (by kernel_rfl) (by first | rfl | kernel_rfl) ?_)
 intro a0 w hS
 refine EL.quick 1 [0, 2] [(0, pt a2 0), (2, pt a0 0)] (by kernel_rfl) ?_
 refine EL.done (by kernel_rfl) ?_
 refine EQ.code ?_
 refine EW.sq (by kernel_rfl) ?_
 refine EW.rg (by kernel_rfl) ?_
 refine EL.of (EO.alloc hS 59 (ag [ia 0, ib 0]) [ia 0, ib 0] 4 (by kernel_rfl) (by kernel_rfl) (by kernel_rfl) (by kernel_rfl) (by first | rfl | kernel_rfl) ?_)
 intro a1 w hS
 refine EL.done (by kernel_rfl) ?_
 refine EQ.code ?_
 refine EW.sq (by kernel_rfl) ?_
 refine EW.rg (by kernel_rfl) ?_
 refine EL.quick 1 [0, 2, 4, 5] [(0, pt a2 0), (2, pt a0 0), (4, pt a1 0), (5, pt a2 0)] (by kernel_rfl) ?_
 have hS : St B _ (Ass.box 50 a2 [sv b2 b4 a6, ia c0] :: Ass.box 59 a1 [ia 0, ib 0] :: Ass.box 59 a0 [ia 0, ib 0] :: os) (Ro.sl (Kd.int .u8) b2 b4 a6 :: rs) := hS.re [2] [] rfl (sub_cons 0 rfl (sub_tail (sub_self)))
 obtain ⟨b0, b8, a3, d9, H⟩ := b3_out H
 have hq := confidantref1_Reader_Num.calls d9 hS
 refine EL.of (EO.callD 44 [pt a2 0, ic 26] _ 6 (by kernel_rfl) (by kernel_rfl) (by kernel_rfl) hq ?_)
 rintro v w ⟨b6, b7, rfl, hS⟩
 refine EL.quick 2 [0, 2, 4, 7, 8] [(0, pt a2 0), (2, pt a0 0), (4, pt a1 0), (7, ia (IntKind.i64.wrap a3)), (8, pt a1 0)] (by kernel_rfl) ?_
 refine EL.of (EO.storeBox (os' := Ass.box 50 a2 [sv b6 b7 b0, ia b8] :: Ass.box 59 a1 [ia (IntKind.i64.wrap a3), ib 0] :: Ass.box 59 a0 [ia 0, ib 0] :: os) hS 1 rfl 3 0 (ia (IntKind.i64.wrap a3)) [ia (IntKind.i64.wrap a3), ib 0] (by kernel_rfl) (by kernel_rfl) (by kernel_rfl) (by kernel_rfl) (by kernel_rfl) (by kernel_rfl) rfl rfl ?_)
 intro w hS
 refine EL.done (by kernel_rfl) ?_
 refine EQ.code ?_
 obtain ⟨c4, e3, H⟩ := lt_out H
 refine EW.ct (fun a w => ∃ a7 : List Int, ∃ a5 : Int, ∃ a4 : Int, ∃ a8 : Option Addr, ∃ a9 : Nat, Sat 28 [(0, pt a2 0), (2, pt a0 0), (4, pt a1 0)] a ∧ St B w (Ass.box 50 a2 [sv a8 a9 a7, ia a5] :: Ass.box 59 a1 [ia (IntKind.i64.wrap a3), ib a4] :: Ass.box 59 a0 [ia 0, ib 0] :: os) (Ro.sl (Kd.int .u8) a8 a9 a7 :: Ro.sl (Kd.int .u8) b6 b7 b0 :: Ro.sl (Kd.int .u8) b2 b4 a6 :: rs) ∧ c4 a7 a5 a4 = some (c2, c9, d0, d1, d2)) (by kernel_rfl) ?_ (fun a w hI => ?_)
 ·refine EW.sq (by kernel_rfl) ?_
  refine EW.rg (by kernel_rfl) ?_
  refine EL.quick 1 [0, 2, 4, 9] [(0, pt a2 0), (2, pt a0 0), (4, pt a1 0), (9, pt a1 0)] (by kernel_rfl) ?_
  refine EL.of (EO.Y (YO.loadBox hS 1 rfl 3 0 1 (ia (IntKind.i64.wrap a3)) 10 (by kernel_rfl) (by kernel_rfl) (by kernel_rfl) (by kernel_rfl)) ?_)
  obtain ⟨c6, e0, H⟩ := b1_out H
  have hq := confidantref5_Arg.calls e0 hS
  refine EL.of (EO.callD 47 [ia (IntKind.i64.wrap a3)] _ 11 (by kernel_rfl) (by kernel_rfl) (by kernel_rfl) hq ?_)
  rintro v w ⟨rfl, hS⟩
  refine EL.quick 1 [0, 2, 4, 12] [(0, pt a2 0), (2, pt a0 0), (4, pt a1 0), (12, .bool (decide (c6 > 0)))] (by kernel_rfl) ?_
  refine EL.done (by kernel_rfl) ?_
  refine EQ.code ?_
  refine EW.cdP (c6 > 0) (by kernel_rfl) (by kernel_rfl) (fun d3 => ?_) (fun d3 => ?_)
  ·rw [if_pos d3] at H
   refine EW.rg (by kernel_rfl) ?_
   refine EL.quick 1 [0, 2, 4, 13] [(0, pt a2 0), (2, pt a0 0), (4, pt a1 0), (13, pt a2 0)] (by kernel_rfl) ?_
   have hS : St B _ (Ass.box 50 a2 [sv b6 b7 b0, ia b8] :: Ass.box 59 a1 [ia (IntKind.i64.wrap a3), ib 0] :: Ass.box 59 a0 [ia 0, ib 0] :: os) (Ro.sl (Kd.int .u8) b6 b7 b0 :: Ro.sl (Kd.int .u8) b2 b4 a6 :: rs) := hS.re [0] [] rfl (sub_cons 0 rfl (sub_tail (sub_self)))
   obtain ⟨c7, c8, b5, e1, H⟩ := b3_out H
   have hq := confidantref1_Reader_Word.calls e1 hS
   refine EL.of (EO.callD 65 [pt a2 0] _ 14 (by kernel_rfl) (by kernel_rfl) (by kernel_rfl) hq ?_)
   rintro v w ⟨d6, d8, rfl, hS⟩
   refine EL.quick 1 [0, 2, 4, 14, 15] [(0, pt a2 0), (2, pt a0 0), (4, pt a1 0), (14, ib b5), (15, pt a1 1)] (by kernel_rfl) ?_
   refine EL.of (EO.storeBox (os' := Ass.box 50 a2 [sv d6 d8 c7, ia c8] :: Ass.box 59 a1 [ia (IntKind.i64.wrap a3), ib b5] :: Ass.box 59 a0 [ia 0, ib 0] :: os) hS 1 rfl 21 1 (ib b5) [ia (IntKind.i64.wrap a3), ib b5] (by kernel_rfl) (by kernel_rfl) (by kernel_rfl) (by kernel_rfl) (by kernel_rfl) (by kernel_rfl) rfl rfl ?_)
   intro w hS
   refine EL.done (by kernel_rfl) ?_
   refine EQ.to ?_
   refine EQ.keep [0, 2, 4] [(0, pt a2 0), (2, pt a0 0), (4, pt a1 0)] (by kernel_rfl) ?_
   exact fun a ha => ⟨c7, c8, b5, d6, d8, ha, (hS.re [2, 2, 2] [] rfl (sub_cons 0 rfl (sub_cons 1 rfl (sub_cons 2 rfl (sub_tail (sub_tail (sub_tail (sub_self)))))))), H⟩
  rw [if_neg d3] at H
  refine EW.skip (by kernel_rfl) ?_
  refine EQ.to ?_
  refine EQ.keep [0, 2, 4] [(0, pt a2 0), (2, pt a0 0), (4, pt a1 0)] (by kernel_rfl) ?_
  exact fun a ha => ⟨b0, b8, 0, b6, b7, ha, (hS.re [2, 2, 2] [] rfl (sub_cons 0 rfl (sub_cons 0 rfl (sub_cons 1 rfl (sub_tail (sub_tail (sub_self))))))), H⟩
 obtain ⟨a7, a5, a4, a8, a9, ha, hS, H⟩ := hI
 rw [e3] at H
 (try dsimp only at H)
 refine EW.at ?_ a ha
 clear ha a
 refine EW.sq (by kernel_rfl) ?_
 obtain ⟨c5, e4, H⟩ := lt_out H
 refine EW.ct (fun a w => ∃ b9 : Bool, Sat 28 [(2, pt a0 0), (4, pt a1 0), (25, .bool (b9))] a ∧ St B w (Ass.box 50 a2 [sv a8 a9 a7, ia a5] :: Ass.box 59 a1 [ia (IntKind.i64.wrap a3), ib a4] :: Ass.box 59 a0 [ia 0, ib 0] :: os) (Ro.sl (Kd.int .u8) a8 a9 a7 :: Ro.sl (Kd.int .u8) b6 b7 b0 :: Ro.sl (Kd.int .u8) b2 b4 a6 :: rs) ∧ c5 b9 = some (c2, c9, d0, d1, d2)) (by kernel_rfl) ?_ (fun a w hI => ?_)
 ·refine EW.rg (by kernel_rfl) ?_
  refine EL.quick 3 [2, 4, 18] [(2, pt a0 0), (4, pt a1 0), (18, pt a2 1)] (by kernel_rfl) ?_
  refine EL.of (EO.Y (YO.loadBox hS 0 rfl 3 1 1 (ia a5) 19 (by kernel_rfl) (by kernel_rfl) (by kernel_rfl) (by kernel_rfl)) ?_)
  refine EL.quick 2 [2, 4, 21] [(2, pt a0 0), (4, pt a1 0), (21, .bool (!(decide (a5 = 0))))] (by kernel_rfl) ?_
  by_cases c3 : a5 = 0
  ·rw [if_pos c3] at H
   refine EL.keep [2, 4, 21] [(2, pt a0 0), (4, pt a1 0), (21, .bool (!(decide (a5 = 0))))] (by kernel_rfl) ?_
   refine EL.as' [(2, pt a0 0), (4, pt a1 0), (21, .bool (false))] (by simp only [sv, dec_t c3, Bool.not_true, Bool.not_false]) ?_
   refine EL.of (EO.Y (YO.loadBox hS 1 rfl 59 0 2 (ag [ia (IntKind.i64.wrap a3), ib a4]) 22 (by kernel_rfl) (by kernel_rfl) (by kernel_rfl) (by kernel_rfl)) ?_)
   obtain ⟨c1, e2, H⟩ := b1_out H
   have hq := confidantref5_Right.calls e2 hS
   refine EL.of (EO.callD 32 [ag [ia (IntKind.i64.wrap a3), ib a4]] _ 23 (by kernel_rfl) (by kernel_rfl) (by kernel_rfl) hq ?_)
   rintro v w ⟨rfl, hS⟩
   refine EL.quick 2 [2, 4, 25] [(2, pt a0 0), (4, pt a1 0), (25, .bool (!(c1)))] (by kernel_rfl) ?_
   refine EL.done (by kernel_rfl) ?_
   refine EQ.to ?_
   refine EQ.keep [2, 4, 25] [(2, pt a0 0), (4, pt a1 0), (25, .bool (!(c1)))] (by kernel_rfl) ?_
   exact fun a ha => ⟨!(c1), ha, (hS.re [2, 2, 2] [] rfl (sub_cons 0 rfl (sub_cons 1 rfl (sub_cons 2 rfl (sub_tail (sub_tail (sub_tail (sub_self)))))))), H⟩
  rw [if_neg c3] at H
  refine EL.keep [2, 4, 21] [(2, pt a0 0), (4, pt a1 0), (21, .bool (!(decide (a5 = 0))))] (by kernel_rfl) ?_
  refine EL.as' [(2, pt a0 0), (4, pt a1 0), (21, .bool (true))] (by simp only [sv, dec_f c3, Bool.not_true, Bool.not_false]) ?_
  refine EL.quick 4 [2, 4, 25] [(2, pt a0 0), (4, pt a1 0), (25, .bool (true))] (by kernel_rfl) ?_
  refine EL.done (by kernel_rfl) ?_
  refine EQ.to ?_
  refine EQ.keep [2, 4, 25] [(2, pt a0 0), (4, pt a1 0), (25, .bool (true))] (by kernel_rfl) ?_
  exact fun a ha => ⟨true, ha, (hS.re [2, 2, 2] [] rfl (sub_cons 0 rfl (sub_cons 1 rfl (sub_cons 2 rfl (sub_tail (sub_tail (sub_tail (sub_self)))))))), H⟩
 obtain ⟨b9, ha, hS, H⟩ := hI
 rw [e4] at H
 (try dsimp only at H)
 refine EW.at ?_ a ha
 clear ha a
 refine EW.cdP' (b9) (by kernel_rfl) (by kernel_rfl) (fun d4 => ?_) (fun d4 => ?_)
 ·rw [if_pos d4] at H
  refine EW.sq (by kernel_rfl) ?_
  refine EW.rg (by kernel_rfl) ?_
  refine EL.quick 1 [2, 26] [(2, pt a0 0), (26, ag [ia 0, ib 0])] (by kernel_rfl) ?_
  refine EL.of (EO.storeBox (os' := Ass.box 50 a2 [sv a8 a9 a7, ia a5] :: Ass.box 59 a1 [ia (IntKind.i64.wrap a3), ib a4] :: Ass.box 59 a0 [ia 0, ib 0] :: os) hS 2 rfl 59 0 (ag [ia 0, ib 0]) [ia 0, ib 0] (by kernel_rfl) (by kernel_rfl) (by kernel_rfl) (by kernel_rfl) (by kernel_rfl) (by kernel_rfl) rfl rfl ?_)
  intro w hS
  refine EL.quick 1 [2, 3] [(2, pt a0 0), (3, .bool (false))] (by kernel_rfl) ?_
  refine EL.done (by kernel_rfl) ?_
  refine EQ.code ?_
  refine EW.ret (by kernel_rfl) ?_
  refine EQ.ret ?_
  simp only [sv, Option.some.injEq, Prod.mk.injEq] at H
  obtain ⟨rfl, rfl, rfl, rfl, rfl⟩ := H
  exact EQ.leave2 hS (.cell 2 59) (.tmp 3) (ag [ia 0, ib 0]) (.bool (false)) (by kernel_rfl) ⟨2, 59, a0, [ia 0, ib 0], 0, 2, rfl, (by kernel_rfl), (by kernel_rfl)⟩ (oneTmp (by kernel_rfl)) ⟨_, rfl, a8, a9, rfl, (hS.re [0] [1, 1] rfl (sub_cons 0 rfl (sub_tail (sub_tail (sub_self)))))⟩
 rw [if_neg d4] at H
 refine EW.skip (by kernel_rfl) ?_
 refine EQ.code ?_
 refine EW.sq (by kernel_rfl) ?_
 refine EW.rg (by kernel_rfl) ?_
 refine EL.of (EO.Y (YO.loadBox hS 1 rfl 59 0 2 (ag [ia (IntKind.i64.wrap a3), ib a4]) 27 (by kernel_rfl) (by kernel_rfl) (by kernel_rfl) (by kernel_rfl)) ?_)
 refine EL.of (EO.storeBox (os' := Ass.box 50 a2 [sv a8 a9 a7, ia a5] :: Ass.box 59 a1 [ia (IntKind.i64.wrap a3), ib a4] :: Ass.box 59 a0 [ia (IntKind.i64.wrap a3), ib a4] :: os) hS 2 rfl 59 0 (ag [ia (IntKind.i64.wrap a3), ib a4]) [ia (IntKind.i64.wrap a3), ib a4] (by kernel_rfl) (by kernel_rfl) (by kernel_rfl) (by kernel_rfl) (by kernel_rfl) (by kernel_rfl) rfl rfl ?_)
 intro w hS
 refine EL.quick 1 [2, 3] [(2, pt a0 0), (3, .bool (true))] (by kernel_rfl) ?_
 refine EL.done (by kernel_rfl) ?_
 refine EQ.code ?_
 refine EW.ret (by kernel_rfl) ?_
 simp only [sv, Option.some.injEq, Prod.mk.injEq] at H
 obtain ⟨rfl, rfl, rfl, rfl, rfl⟩ := H
 exact EQ.leave2 hS (.cell 2 59) (.tmp 3) (ag [ia (IntKind.i64.wrap a3), ib a4]) (.bool (true)) (by kernel_rfl) ⟨2, 59, a0, [ia (IntKind.i64.wrap a3), ib a4], 0, 2, rfl, (by kernel_rfl), (by kernel_rfl)⟩ (oneTmp (by kernel_rfl)) ⟨_, rfl, a8, a9, rfl, (hS.re [0] [1, 1] rfl (sub_cons 0 rfl (sub_tail (sub_tail (sub_self)))))⟩

/-! ### confidant/confidantref5.ImageTake: function 19 -/
def confidantref5_ImageTake.l1 (K : Nat) (a6 : Int) (e1 : (List Int) → Int → (List S59) → Option (List Int × Int × List (List S59) × Bool)) : Nat → (List Int) → Int → (List S59) → Int → Option (List Int × Int × List (List S59) × Bool)
 | 0, _, _, _, _ => none
 | n + 1, c5, d9, a7, a8 => if a8 < (IntKind.i64.wrap a6) then (b5 (confidantref5_Take.f K c5 d9) fun (f8 : List Int) (f9 : Int) (b9 : Int) (b6 : Int) (e3 : Bool) => (if e3 = true then (lt ([(⟨b9, b6⟩ : S59)] : List S59) fun f6 => (if (a7.length + f6.length) * 16 ≤ 140737488355328 then (lt (a7 ++ f6) fun d4 => (confidantref5_ImageTake.l1 K a6 e1 n f8 f9 d4 (IntKind.i64.wrap (a8 + 1)))) else none)) else (some (f8, f9, ([] : List (List S59)), false)))) else (e1 c5 d9 a7)
def confidantref5_ImageTake.l0 (K : Nat) (a2 : Int) (e0 : (List Int) → Int → (List (List S59)) → Option (List Int × Int × List (List S59) × Bool)) : Nat → (List Int) → Int → (List (List S59)) → Int → Option (List Int × Int × List (List S59) × Bool)
 | 0, _, _, _, _ => none
 | n + 1, b4, d7, a1, a3 => if a3 < (IntKind.i64.wrap a2) then (lt (fun (c8 : List (List S59)) (e7 : List Int) (g0 : Int) => (confidantref5_ImageTake.l0 K a2 e0 n e7 g0 c8 (IntKind.i64.wrap (a3 + 1)))) fun i7 => (b3 (confidantref1_Reader_Num.f K b4 d7 512) fun (f7 : List Int) (i9 : Int) (a6 : Int) => (lt (fun (c9 : List Int) (d8 : Int) (a9 : List S59) => (if (a1.length + ([a9] : List (List S59)).length) * 24 ≤ 140737488355328 then (lt (a1 ++ ([a9] : List (List S59))) fun e2 => (i7 e2 c9 d8)) else none)) fun e1 => (confidantref5_ImageTake.l1 K a6 e1 K f7 i9 ([] : List S59) 0)))) else (e0 b4 d7 a1)
def confidantref5_ImageTake.f (K : Nat) (b0 : List Int) (g5 : Int) : Option (List Int × Int × List (List S59) × Bool) := b3 (confidantref1_Reader_Num.f K b0 g5 64) fun (c3 : List Int) (i8 : Int) (a2 : Int) => (lt (fun (e6 : List Int) (c0 : Int) (c4 : List (List S59)) => (if c0 = 0 then (some (e6, c0, c4, true)) else (some (e6, c0, ([] : List (List S59)), false)))) fun e0 => (confidantref5_ImageTake.l0 K a2 e0 K c3 i8 ([] : List (List S59)) 0))
set_option maxRecDepth 100000 in
theorem confidantref5_ImageTake.calls {K : Nat} {b0 : List Int} {g5 : Int} {a0 : Nat} {b7 : Option Addr} {b8 : Nat} {d5 : List Int} {e4 : Int} {d6 : List (List S59)} {e5 : Bool} {B w : World} {os : List Ass} {rs : List Ro} (H : confidantref5_ImageTake.f K b0 g5 = some (d5, e4, d6, e5)) (hS : St B w (Ass.box 50 a0 [sv b7 b8 b0, ia g5] :: os) (Ro.sl (Kd.int .u8) b7 b8 b0 :: rs)) :
  Calls Tryz.prog 19 [pt a0 0].toArray w (fun en w' => ∃ v, en = .returned v ∧ ∃ j0 : Option Addr, ∃ j2 : Nat, ∃ j1 : Option Addr, ∃ j3 : Nat, v = .tuple #[sv j1 j3 d6, .bool (e5)] ∧ St B w' (Ass.box 50 a0 [sv j0 j2 d5, ia e4] :: Ass.deep 56 59 kS59 j1 j3 d6 :: os) (Ro.sl (Kd.int .u8) j0 j2 d5 :: Ro.sl (Kd.int .u8) b7 b8 b0 :: rs)) := by
 unfold confidantref5_ImageTake.f at H
 refine calls_of_EW (args := [pt a0 0]) (c := Cd19) 49 Tryz.func19 (by kernel_rfl) (by kernel_rfl) (by kernel_rfl) ?_
 refine EW.sq (by kernel_rfl) ?_
 refine EW.rg (by kernel_rfl) ?_
 refine EL.quick 2 [0] [(0, pt a0 0)] (by kernel_rfl) ?_
 refine EL.done (by kernel_rfl) ?_
 refine EQ.code ?_
 refine EW.sq (by kernel_rfl) ?_
 refine EW.rg (by kernel_rfl) ?_
 refine EL.quick 1 [0, 4] [(0, pt a0 0), (4, sv none 0 ([] : List (List S59)))] (by kernel_rfl) ?_
 refine EL.done (by kernel_rfl) ?_
 refine EQ.code ?_
 refine EW.sq (by kernel_rfl) ?_
 refine EW.rg (by kernel_rfl) ?_
 refine EL.quick 1 [0, 4, 12] [(0, pt a0 0), (4, sv none 0 ([] : List (List S59))), (12, pt a0 0)] (by kernel_rfl) ?_
 have hS : St B _ (Ass.box 50 a0 [sv b7 b8 b0, ia g5] :: os) (Ro.sl (Kd.int .u8) b7 b8 b0 :: rs) := hS.re [0] [] rfl (sub_cons 0 rfl (sub_tail (sub_self)))
 obtain ⟨c3, i8, a2, j9, H⟩ := b3_out H
 have hq := confidantref1_Reader_Num.calls j9 hS
 refine EL.of (EO.callD 44 [pt a0 0, ic 64] _ 13 (by kernel_rfl) (by kernel_rfl) (by kernel_rfl) hq ?_)
 rintro v w ⟨d0, d2, rfl, hS⟩
 refine EL.quick 2 [0, 4, 5] [(0, pt a0 0), (4, sv none 0 ([] : List (List S59))), (5, ia (IntKind.i64.wrap a2))] (by kernel_rfl) ?_
 refine EL.done (by kernel_rfl) ?_
 refine EQ.code ?_
 obtain ⟨e0, m2, H⟩ := lt_out H
 refine EW.ct (fun a w => ∃ e6 : List Int, ∃ c0 : Int, ∃ c4 : List (List S59), ∃ g1 : Option Addr, ∃ g3 : Nat, ∃ d1 : Option Addr, ∃ d3 : Nat, Sat 49 [(0, pt a0 0), (4, sv d1 d3 c4)] a ∧ St B w (Ass.box 50 a0 [sv g1 g3 e6, ia c0] :: Ass.deep 56 59 kS59 d1 d3 c4 :: os) (Ro.sl (Kd.int .u8) g1 g3 e6 :: Ro.sl (Kd.int .u8) d0 d2 c3 :: Ro.sl (Kd.int .u8) b7 b8 b0 :: rs) ∧ e0 e6 c0 c4 = some (d5, e4, d6, e5)) (by kernel_rfl) ?_ (fun a w hI => ?_)
 ·refine EW.sq (by kernel_rfl) ?_
  refine EW.rg (by kernel_rfl) ?_
  refine EL.quick 1 [0, 4, 5, 6] [(0, pt a0 0), (4, sv none 0 ([] : List (List S59))), (5, ia (IntKind.i64.wrap a2)), (6, ia 0)] (by kernel_rfl) ?_
  refine EL.done (by kernel_rfl) ?_
  refine EQ.code ?_
  refine EW.bl 0 (by kernel_rfl) ?_
  have hS := St.nilDeep hS 56 59 kS59
  refine EW.lp (fun n a w => ∃ b4 : List Int, ∃ d7 : Int, ∃ a1 : List (List S59), ∃ a3 : Int, ∃ c1 : Option Addr, ∃ c2 : Nat, ∃ a4 : Option Addr, ∃ a5 : Nat, Sat 49 [(0, pt a0 0), (4, sv a4 a5 a1), (5, ia (IntKind.i64.wrap a2)), (6, ia a3)] a ∧ St B w (Ass.box 50 a0 [sv c1 c2 b4, ia d7] :: Ass.deep 56 59 kS59 a4 a5 a1 :: os) (Ro.sl (Kd.int .u8) c1 c2 b4 :: Ro.sl (Kd.int .u8) d0 d2 c3 :: Ro.sl (Kd.int .u8) b7 b8 b0 :: rs) ∧ confidantref5_ImageTake.l0 K a2 e0 n b4 d7 a1 a3 = some (d5, e4, d6, e5)) K (by kernel_rfl) ?_ (fun n a w hI => ?_)
  ·refine EQ.keep [0, 4, 5, 6] [(0, pt a0 0), (4, sv none 0 ([] : List (List S59))), (5, ia (IntKind.i64.wrap a2)), (6, ia 0)] (by kernel_rfl) ?_
   exact fun a ha => ⟨c3, i8, ([] : List (List S59)), 0, d0, d2, none, 0, ha, (hS.re [0, 1] [] rfl (sub_cons 0 rfl (sub_cons 0 rfl (sub_cons 1 rfl (sub_tail (sub_tail (sub_self))))))), H⟩
  obtain ⟨b4, d7, a1, a3, c1, c2, a4, a5, ha, hS, H⟩ := hI
  obtain _ | n := n
  ·simp [confidantref5_ImageTake.l0] at H
  rw [confidantref5_ImageTake.l0.eq_2] at H
  refine EW.at ?_ a ha
  clear ha a
  refine EW.sq (by kernel_rfl) ?_
  refine EW.sq (by kernel_rfl) ?_
  refine EW.rg (by kernel_rfl) ?_
  refine EL.quick 3 [0, 4, 5, 6, 17] [(0, pt a0 0), (4, sv a4 a5 a1), (5, ia (IntKind.i64.wrap a2)), (6, ia a3), (17, .bool (decide (a3 < (IntKind.i64.wrap a2))))] (by kernel_rfl) ?_
  refine EL.done (by kernel_rfl) ?_
  refine EQ.code ?_
  refine EW.cdP (a3 < (IntKind.i64.wrap a2)) (by kernel_rfl) (by kernel_rfl) (fun i3 => ?_) (fun i3 => ?_)
  ·rw [if_pos i3] at H
   refine EW.skip (by kernel_rfl) ?_
   refine EQ.code ?_
   obtain ⟨i7, m3, H⟩ := lt_out H
   refine EW.ct (fun a w => ∃ c8 : List (List S59), ∃ e7 : List Int, ∃ g0 : Int, ∃ e8 : Option Addr, ∃ f2 : Nat, ∃ g7 : Option Addr, ∃ i0 : Nat, Sat 49 [(0, pt a0 0), (4, sv e8 f2 c8), (5, ia (IntKind.i64.wrap a2)), (6, ia a3)] a ∧ St B w (Ass.deep 56 59 kS59 e8 f2 c8 :: Ass.box 50 a0 [sv g7 i0 e7, ia g0] :: os) (Ro.sl (Kd.int .u8) g7 i0 e7 :: Ro.sl (Kd.int .u8) c1 c2 b4 :: Ro.sl (Kd.int .u8) d0 d2 c3 :: Ro.sl (Kd.int .u8) b7 b8 b0 :: rs) ∧ i7 c8 e7 g0 = some (d5, e4, d6, e5)) (by kernel_rfl) ?_ (fun a w hI => ?_)
   ·refine EW.bl 1 (by kernel_rfl) ?_
    refine EW.sq (by kernel_rfl) ?_
    refine EW.rg (by kernel_rfl) ?_
    refine EL.quick 1 [0, 4, 5, 6, 7] [(0, pt a0 0), (4, sv a4 a5 a1), (5, ia (IntKind.i64.wrap a2)), (6, ia a3), (7, sv none 0 ([] : List S59))] (by kernel_rfl) ?_
    refine EL.done (by kernel_rfl) ?_
    refine EQ.code ?_
    refine EW.sq (by kernel_rfl) ?_
    refine EW.rg (by kernel_rfl) ?_
    refine EL.quick 1 [0, 4, 5, 6, 7, 20] [(0, pt a0 0), (4, sv a4 a5 a1), (5, ia (IntKind.i64.wrap a2)), (6, ia a3), (7, sv none 0 ([] : List S59)), (20, pt a0 0)] (by kernel_rfl) ?_
    have hS : St B _ (Ass.box 50 a0 [sv c1 c2 b4, ia d7] :: Ass.deep 56 59 kS59 a4 a5 a1 :: os) (Ro.sl (Kd.int .u8) c1 c2 b4 :: Ro.sl (Kd.int .u8) d0 d2 c3 :: Ro.sl (Kd.int .u8) b7 b8 b0 :: rs) := hS.re [0] [] rfl (sub_cons 0 rfl (sub_tail (sub_self)))
    obtain ⟨f7, i9, a6, m0, H⟩ := b3_out H
    have hq := confidantref1_Reader_Num.calls m0 hS
    refine EL.of (EO.callD 44 [pt a0 0, ic 512] _ 21 (by kernel_rfl) (by kernel_rfl) (by kernel_rfl) hq ?_)
    rintro v w ⟨g8, i1, rfl, hS⟩
    refine EL.quick 2 [0, 4, 5, 6, 7, 8] [(0, pt a0 0), (4, sv a4 a5 a1), (5, ia (IntKind.i64.wrap a2)), (6, ia a3), (7, sv none 0 ([] : List S59)), (8, ia (IntKind.i64.wrap a6))] (by kernel_rfl) ?_
    refine EL.done (by kernel_rfl) ?_
    refine EQ.code ?_
    obtain ⟨e1, m4, H⟩ := lt_out H
    refine EW.ct (fun a w => ∃ c9 : List Int, ∃ d8 : Int, ∃ a9 : List S59, ∃ e9 : Option Addr, ∃ f3 : Nat, ∃ c6 : Option Addr, ∃ c7 : Nat, Sat 49 [(0, pt a0 0), (4, sv a4 a5 a1), (5, ia (IntKind.i64.wrap a2)), (6, ia a3), (7, sv c6 c7 a9)] a ∧ St B w (Ass.box 50 a0 [sv e9 f3 c9, ia d8] :: Ass.deep 56 59 kS59 a4 a5 a1 :: Ass.own 59 kS59 c6 c7 a9 :: os) (Ro.sl (Kd.int .u8) e9 f3 c9 :: Ro.sl (Kd.int .u8) g8 i1 f7 :: Ro.sl (Kd.int .u8) c1 c2 b4 :: Ro.sl (Kd.int .u8) d0 d2 c3 :: Ro.sl (Kd.int .u8) b7 b8 b0 :: rs) ∧ e1 c9 d8 a9 = some (d5, e4, d6, e5)) (by kernel_rfl) ?_ (fun a w hI => ?_)
    ·refine EW.sq (by kernel_rfl) ?_
     refine EW.rg (by kernel_rfl) ?_
     refine EL.quick 1 [0, 4, 5, 6, 7, 8, 9] [(0, pt a0 0), (4, sv a4 a5 a1), (5, ia (IntKind.i64.wrap a2)), (6, ia a3), (7, sv none 0 ([] : List S59)), (8, ia (IntKind.i64.wrap a6)), (9, ia 0)] (by kernel_rfl) ?_
     refine EL.done (by kernel_rfl) ?_
     refine EQ.code ?_
     refine EW.bl 2 (by kernel_rfl) ?_
     have hS := St.nilO hS 59 kS59
     refine EW.lp (fun n a w => ∃ c5 : List Int, ∃ d9 : Int, ∃ a7 : List S59, ∃ a8 : Int, ∃ f0 : Option Addr, ∃ f4 : Nat, ∃ b1 : Option Addr, ∃ b2 : Nat, Sat 49 [(0, pt a0 0), (4, sv a4 a5 a1), (5, ia (IntKind.i64.wrap a2)), (6, ia a3), (7, sv b1 b2 a7), (8, ia (IntKind.i64.wrap a6)), (9, ia a8)] a ∧ St B w (Ass.box 50 a0 [sv f0 f4 c5, ia d9] :: Ass.deep 56 59 kS59 a4 a5 a1 :: Ass.own 59 kS59 b1 b2 a7 :: os) (Ro.sl (Kd.int .u8) f0 f4 c5 :: Ro.sl (Kd.int .u8) g8 i1 f7 :: Ro.sl (Kd.int .u8) c1 c2 b4 :: Ro.sl (Kd.int .u8) d0 d2 c3 :: Ro.sl (Kd.int .u8) b7 b8 b0 :: rs) ∧ confidantref5_ImageTake.l1 K a6 e1 n c5 d9 a7 a8 = some (d5, e4, d6, e5)) K (by kernel_rfl) ?_ (fun n a w hI => ?_)
     ·refine EQ.keep [0, 4, 5, 6, 7, 8, 9] [(0, pt a0 0), (4, sv a4 a5 a1), (5, ia (IntKind.i64.wrap a2)), (6, ia a3), (7, sv none 0 ([] : List S59)), (8, ia (IntKind.i64.wrap a6)), (9, ia 0)] (by kernel_rfl) ?_
      exact fun a ha => ⟨f7, i9, ([] : List S59), 0, g8, i1, none, 0, ha, (hS.re [0, 2, 2] [] rfl (sub_cons 0 rfl (sub_cons 0 rfl (sub_cons 1 rfl (sub_cons 2 rfl (sub_cons 3 rfl (sub_tail (sub_tail (sub_tail (sub_tail (sub_self))))))))))), H⟩
     obtain ⟨c5, d9, a7, a8, f0, f4, b1, b2, ha, hS, H⟩ := hI
     obtain _ | n := n
     ·simp [confidantref5_ImageTake.l1] at H
     rw [confidantref5_ImageTake.l1.eq_2] at H
     refine EW.at ?_ a ha
     clear ha a
     refine EW.sq (by kernel_rfl) ?_
     refine EW.sq (by kernel_rfl) ?_
     refine EW.rg (by kernel_rfl) ?_
     refine EL.quick 3 [0, 4, 5, 6, 7, 8, 9, 25] [(0, pt a0 0), (4, sv a4 a5 a1), (5, ia (IntKind.i64.wrap a2)), (6, ia a3), (7, sv b1 b2 a7), (8, ia (IntKind.i64.wrap a6)), (9, ia a8), (25, .bool (decide (a8 < (IntKind.i64.wrap a6))))] (by kernel_rfl) ?_
     refine EL.done (by kernel_rfl) ?_
     refine EQ.code ?_
     refine EW.cdP (a8 < (IntKind.i64.wrap a6)) (by kernel_rfl) (by kernel_rfl) (fun i4 => ?_) (fun i4 => ?_)
     ·rw [if_pos i4] at H
      refine EW.skip (by kernel_rfl) ?_
      refine EQ.code ?_
      refine EW.sq (by kernel_rfl) ?_
      refine EW.bl 3 (by kernel_rfl) ?_
      refine EW.sq (by kernel_rfl) ?_
      refine EW.rg (by kernel_rfl) ?_
      refine EL.quick 1 [0, 4, 5, 6, 7, 8, 9, 29] [(0, pt a0 0), (4, sv a4 a5 a1), (5, ia (IntKind.i64.wrap a2)), (6, ia a3), (7, sv b1 b2 a7), (8, ia (IntKind.i64.wrap a6)), (9, ia a8), (29, pt a0 0)] (by kernel_rfl) ?_
      have hS : St B _ (Ass.box 50 a0 [sv f0 f4 c5, ia d9] :: Ass.deep 56 59 kS59 a4 a5 a1 :: Ass.own 59 kS59 b1 b2 a7 :: os) (Ro.sl (Kd.int .u8) f0 f4 c5 :: Ro.sl (Kd.int .u8) g8 i1 f7 :: Ro.sl (Kd.int .u8) c1 c2 b4 :: Ro.sl (Kd.int .u8) d0 d2 c3 :: Ro.sl (Kd.int .u8) b7 b8 b0 :: rs) := hS.re [0] [] rfl (sub_cons 0 rfl (sub_tail (sub_self)))
      obtain ⟨f8, f9, b9, b6, e3, m1, H⟩ := b5_out H
      have hq := confidantref5_Take.calls m1 hS
      refine EL.of (EO.callD 45 [pt a0 0] _ 30 (by kernel_rfl) (by kernel_rfl) (by kernel_rfl) hq ?_)
      rintro v w ⟨g9, i2, rfl, hS⟩
      refine EL.quick 3 [0, 4, 5, 6, 7, 8, 9, 31, 32] [(0, pt a0 0), (4, sv a4 a5 a1), (5, ia (IntKind.i64.wrap a2)), (6, ia a3), (7, sv b1 b2 a7), (8, ia (IntKind.i64.wrap a6)), (9, ia a8), (31, ag [ia b9, ib b6]), (32, .bool (e3))] (by kernel_rfl) ?_
      refine EL.of (EO.alloc hS 59 (ag [ia 0, ib 0]) [ia 0, ib 0] 10 (by kernel_rfl) (by kernel_rfl) (by kernel_rfl) (by kernel_rfl) (by first | rfl | kernel_rfl) ?_)
      intro g6 w hS
      refine EL.of (EO.storeBox (os' := Ass.box 59 g6 [ia b9, ib b6] :: Ass.box 50 a0 [sv g9 i2 f8, ia f9] :: Ass.deep 56 59 kS59 a4 a5 a1 :: Ass.own 59 kS59 b1 b2 a7 :: os) hS 0 rfl 59 0 (ag [ia b9, ib b6]) [ia b9, ib b6] (by kernel_rfl) (by kernel_rfl) (by kernel_rfl) (by kernel_rfl) (by kernel_rfl) (by kernel_rfl) rfl rfl ?_)
      intro w hS
      refine EL.quick 1 [0, 4, 5, 6, 7, 8, 9, 10, 11] [(0, pt a0 0), (4, sv a4 a5 a1), (5, ia (IntKind.i64.wrap a2)), (6, ia a3), (7, sv b1 b2 a7), (8, ia (IntKind.i64.wrap a6)), (9, ia a8), (10, pt g6 0), (11, .bool (e3))] (by kernel_rfl) ?_
      refine EL.done (by kernel_rfl) ?_
      refine EQ.code ?_
      refine EW.sq (by kernel_rfl) ?_
      refine EW.sq (by kernel_rfl) ?_
      refine EW.rg (by kernel_rfl) ?_
      refine EL.quick 2 [0, 4, 5, 6, 7, 8, 9, 10, 34] [(0, pt a0 0), (4, sv a4 a5 a1), (5, ia (IntKind.i64.wrap a2)), (6, ia a3), (7, sv b1 b2 a7), (8, ia (IntKind.i64.wrap a6)), (9, ia a8), (10, pt g6 0), (34, .bool (!(e3)))] (by kernel_rfl) ?_
      refine EL.done (by kernel_rfl) ?_
      refine EQ.code ?_
      refine EW.cdQ (b := !(e3)) (e3 = true) (false) (by kernel_rfl) (by kernel_rfl) ⟨fun h => (by rw [h] <;> rfl), fun h => (by rw [Bool.eq_false_iff.2 h] <;> rfl)⟩ (fun i5 => ?_) (fun i5 => ?_)
      ·rw [if_pos i5] at H
       refine EW.skip (by kernel_rfl) ?_
       refine EQ.code ?_
       refine EW.rg (by kernel_rfl) ?_
       refine EL.quick 1 [0, 4, 5, 6, 8, 9, 10, 35] [(0, pt a0 0), (4, sv a4 a5 a1), (5, ia (IntKind.i64.wrap a2)), (6, ia a3), (8, ia (IntKind.i64.wrap a6)), (9, ia a8), (10, pt g6 0), (35, sv b1 b2 a7)] (by kernel_rfl) ?_
       refine EL.of (EO.Y (YO.loadBox hS 0 rfl 59 0 2 (ag [ia b9, ib b6]) 36 (by kernel_rfl) (by kernel_rfl) (by kernel_rfl) (by kernel_rfl)) ?_)
       obtain ⟨f6, j6, H⟩ := lt_out H
       refine EL.of (EO.lit hS kS59 59 56 1 #[(0, ag [ia b9, ib b6])] [ia b9, ib b6] f6 37 (by kernel_rfl) (by kernel_rfl) (by kernel_rfl) (fun _ => (by kernel_rfl)) (by rw [j6]; rfl) (by kernel_rfl) (fun w G hr => (by rw [j6]; exact ⟨[ia b9, ib b6], [], rfl, ⟨[ia b9], [ib b6], rfl, rfl, ⟨[ib b6], [], rfl, rfl, rfl⟩⟩, rfl⟩)) ?_)
       intro j4 w hS
       obtain ⟨j7, H⟩ := ite_in H
       obtain ⟨d4, m5, H⟩ := lt_out H
       refine EL.of (EO.append hS 56 56 59 16 4 kS59 b1 b2 a7 rfl (some ⟨j4, 0, none⟩) 1 f6 (Rd.own 0 59 rfl) d4 m5 (fun f1 f5 => Ass.own 59 kS59 (some ⟨j4, 0, none⟩) 1 f6 :: Ass.box 59 g6 [ia b9, ib b6] :: Ass.box 50 a0 [sv g9 i2 f8, ia f9] :: Ass.deep 56 59 kS59 a4 a5 a1 :: Ass.own 59 kS59 f1 f5 d4 :: os) 38 (by kernel_rfl) (by kernel_rfl) (by kernel_rfl) (by kernel_rfl) j7 (fun _ _ => rfl) ?_)
       intro f1 f5 w hS
       refine EL.quick 1 [0, 4, 5, 6, 7, 8, 9] [(0, pt a0 0), (4, sv a4 a5 a1), (5, ia (IntKind.i64.wrap a2)), (6, ia a3), (7, sv f1 f5 d4), (8, ia (IntKind.i64.wrap a6)), (9, ia a8)] (by kernel_rfl) ?_
       refine EL.done (by kernel_rfl) ?_
       refine EQ.pop ?_
       refine EQ.code ?_
       refine EW.rg (by kernel_rfl) ?_
       refine EL.quick 3 [0, 4, 5, 6, 7, 8, 9] [(0, pt a0 0), (4, sv a4 a5 a1), (5, ia (IntKind.i64.wrap a2)), (6, ia a3), (7, sv f1 f5 d4), (8, ia (IntKind.i64.wrap a6)), (9, ia (IntKind.i64.wrap (a8 + 1)))] (by kernel_rfl) ?_
       refine EL.done (by kernel_rfl) ?_
       refine EQ.to ?_
       refine EQ.keep [0, 4, 5, 6, 7, 8, 9] [(0, pt a0 0), (4, sv a4 a5 a1), (5, ia (IntKind.i64.wrap a2)), (6, ia a3), (7, sv f1 f5 d4), (8, ia (IntKind.i64.wrap a6)), (9, ia (IntKind.i64.wrap (a8 + 1)))] (by kernel_rfl) ?_
       exact fun a ha => ⟨n, Nat.lt_succ_self n, f8, f9, d4, IntKind.i64.wrap (a8 + 1), g9, i2, f1, f5, ha, (hS.re [4, 4, 4] [3, 3] rfl (sub_cons 0 rfl (sub_cons 2 rfl (sub_cons 3 rfl (sub_cons 4 rfl (sub_cons 5 rfl (sub_tail (sub_tail (sub_tail (sub_tail (sub_tail (sub_tail (sub_self))))))))))))), H⟩
      rw [if_neg i5] at H
      refine EW.sq (by kernel_rfl) ?_
      refine EW.rg (by kernel_rfl) ?_
      refine EL.quick 2 [2, 3] [(2, sv none 0 ([] : List (List S59))), (3, .bool (false))] (by kernel_rfl) ?_
      refine EL.done (by kernel_rfl) ?_
      refine EQ.code ?_
      refine EW.ret (by kernel_rfl) ?_
      refine EQ.ret ?_
      refine EQ.ret ?_
      refine EQ.ret ?_
      refine EQ.ret ?_
      refine EQ.ret ?_
      refine EQ.ret ?_
      refine EQ.ret ?_
      refine EQ.ret ?_
      refine EQ.ret ?_
      refine EQ.ret ?_
      refine EQ.ret ?_
      have hS := St.nilDeep hS 56 59 kS59
      simp only [sv, Option.some.injEq, Prod.mk.injEq] at H
      obtain ⟨rfl, rfl, rfl, rfl⟩ := H
      exact EQ.leave (.tuple #[sv none 0 ([] : List (List S59)), .bool (false)]) (by kernel_rfl) ⟨_, rfl, g9, i2, none, 0, rfl, (hS.re [0, 2] [2, 2, 2] rfl (sub_cons 0 rfl (sub_tail (sub_tail (sub_tail (sub_tail (sub_tail (sub_self))))))))⟩
     rw [if_neg i4] at H
     refine EW.exit (id := 2) (by kernel_rfl) ?_
     refine EQ.exitCode ?_
     refine EQ.exitTo ?_
     refine EQ.exitHere ?_
     refine EQ.to ?_
     refine EQ.keep [0, 4, 5, 6, 7] [(0, pt a0 0), (4, sv a4 a5 a1), (5, ia (IntKind.i64.wrap a2)), (6, ia a3), (7, sv b1 b2 a7)] (by kernel_rfl) ?_
     exact fun a ha => ⟨c5, d9, a7, f0, f4, b1, b2, ha, (hS.re [2, 2, 2] [] rfl (sub_cons 0 rfl (sub_cons 1 rfl (sub_cons 2 rfl (sub_cons 3 rfl (sub_cons 4 rfl (sub_tail (sub_tail (sub_tail (sub_tail (sub_tail (sub_self)))))))))))), H⟩
    obtain ⟨c9, d8, a9, e9, f3, c6, c7, ha, hS, H⟩ := hI
    rw [m4] at H
    (try dsimp only at H)
    refine EW.at ?_ a ha
    clear ha a
    refine EW.rg (by kernel_rfl) ?_
    refine EL.quick 2 [0, 5, 6, 39, 40] [(0, pt a0 0), (5, ia (IntKind.i64.wrap a2)), (6, ia a3), (39, sv a4 a5 a1), (40, sv c6 c7 a9)] (by kernel_rfl) ?_
    refine EL.of (EO.lit (xs := ([(c6, a9.length, c7)] : List Hdr)) hS Kd.hdr 56 26 1 #[(0, sv c6 c7 a9)] [sv c6 c7 a9] 41 (by kernel_rfl) (by kernel_rfl) (by kernel_rfl) (fun _ => (by kernel_rfl)) rfl (by kernel_rfl) (fun w G hr => ⟨[sv c6 c7 a9], [], rfl, rfl, rfl⟩) ?_)
    intro j5 w hS
    have hS := St.as (os' := Ass.deep 56 59 kS59 (some ⟨j5, 0, none⟩) 1 ([a9] : List (List S59)) :: Ass.box 50 a0 [sv e9 f3 c9, ia d8] :: Ass.deep 56 59 kS59 a4 a5 a1 :: os) (St.fold (B := B) (os := _) (rs := _) (et := 56) (et' := 59) (K := kS59) (hs := [(c6, a9.length, c7)]) (xs := ([a9] : List (List S59))) ⟨rfl, trivial⟩ (St.re hS [3, 1] [] rfl sub_self)) rfl
    obtain ⟨j8, H⟩ := ite_in H
    obtain ⟨e2, m6, H⟩ := lt_out H
    refine EL.of (EO.appendDeep hS 26 26 24 2 0 kS59 a4 a5 a1 rfl (some ⟨j5, 0, none⟩) 1 ([a9] : List (List S59)) rfl e2 m6 (fun g2 g4 => Ass.deep 56 59 kS59 g2 g4 e2 :: Ass.box 50 a0 [sv e9 f3 c9, ia d8] :: os) 42 (by kernel_rfl) (by kernel_rfl) (by kernel_rfl) (by kernel_rfl) j8 (fun _ _ => rfl) ?_)
    intro g2 g4 w hS
    refine EL.quick 1 [0, 4, 5, 6] [(0, pt a0 0), (4, sv g2 g4 e2), (5, ia (IntKind.i64.wrap a2)), (6, ia a3)] (by kernel_rfl) ?_
    refine EL.done (by kernel_rfl) ?_
    refine EQ.pop ?_
    refine EQ.to ?_
    refine EQ.keep [0, 4, 5, 6] [(0, pt a0 0), (4, sv g2 g4 e2), (5, ia (IntKind.i64.wrap a2)), (6, ia a3)] (by kernel_rfl) ?_
    exact fun a ha => ⟨e2, c9, d8, g2, g4, e9, f3, ha, (hS.re [1, 1] [] rfl (sub_cons 0 rfl (sub_cons 2 rfl (sub_cons 3 rfl (sub_cons 4 rfl (sub_tail (sub_tail (sub_tail (sub_tail (sub_tail (sub_self))))))))))), H⟩
   obtain ⟨c8, e7, g0, e8, f2, g7, i0, ha, hS, H⟩ := hI
   rw [m3] at H
   (try dsimp only at H)
   refine EW.at ?_ a ha
   clear ha a
   refine EW.rg (by kernel_rfl) ?_
   refine EL.quick 3 [0, 4, 5, 6] [(0, pt a0 0), (4, sv e8 f2 c8), (5, ia (IntKind.i64.wrap a2)), (6, ia (IntKind.i64.wrap (a3 + 1)))] (by kernel_rfl) ?_
   refine EL.done (by kernel_rfl) ?_
   refine EQ.to ?_
   refine EQ.keep [0, 4, 5, 6] [(0, pt a0 0), (4, sv e8 f2 c8), (5, ia (IntKind.i64.wrap a2)), (6, ia (IntKind.i64.wrap (a3 + 1)))] (by kernel_rfl) ?_
   exact fun a ha => ⟨n, Nat.lt_succ_self n, e7, g0, c8, IntKind.i64.wrap (a3 + 1), g7, i0, e8, f2, ha, (hS.re [0, 1] [] rfl (sub_cons 0 rfl (sub_cons 2 rfl (sub_cons 3 rfl (sub_tail (sub_tail (sub_tail (sub_tail (sub_self))))))))), H⟩
  rw [if_neg i3] at H
  refine EW.exit (id := 0) (by kernel_rfl) ?_
  refine EQ.exitCode ?_
  refine EQ.exitTo ?_
  refine EQ.exitHere ?_
  refine EQ.to ?_
  refine EQ.keep [0, 4] [(0, pt a0 0), (4, sv a4 a5 a1)] (by kernel_rfl) ?_
  exact fun a ha => ⟨b4, d7, a1, c1, c2, a4, a5, ha, (hS.re [1, 1] [] rfl (sub_cons 0 rfl (sub_cons 1 rfl (sub_cons 2 rfl (sub_tail (sub_tail (sub_tail (sub_self)))))))), H⟩
 obtain ⟨e6, c0, c4, g1, g3, d1, d3, ha, hS, H⟩ := hI
 rw [m2] at H
 (try dsimp only at H)
 refine EW.at ?_ a ha
 clear ha a
 refine EW.sq (by kernel_rfl) ?_
 refine EW.sq (by kernel_rfl) ?_
 refine EW.rg (by kernel_rfl) ?_
 refine EL.quick 3 [4, 45] [(4, sv d1 d3 c4), (45, pt a0 1)] (by kernel_rfl) ?_
 refine EL.of (EO.Y (YO.loadBox hS 0 rfl 3 1 1 (ia c0) 46 (by kernel_rfl) (by kernel_rfl) (by kernel_rfl) (by kernel_rfl)) ?_)
 refine EL.quick 1 [4, 47] [(4, sv d1 d3 c4), (47, .bool (!(decide (c0 = 0))))] (by kernel_rfl) ?_
 refine EL.done (by kernel_rfl) ?_
 refine EQ.code ?_
 refine EW.cdQ (b := !(decide (c0 = 0))) (c0 = 0) (false) (by kernel_rfl) (by kernel_rfl) ⟨fun h => (by rw [decide_eq_true h] <;> rfl), fun h => (by rw [decide_eq_false h] <;> rfl)⟩ (fun i6 => ?_) (fun i6 => ?_)
 ·rw [if_pos i6] at H
  refine EW.skip (by kernel_rfl) ?_
  refine EQ.code ?_
  refine EW.sq (by kernel_rfl) ?_
  refine EW.rg (by kernel_rfl) ?_
  refine EL.quick 3 [2, 3] [(2, sv d1 d3 c4), (3, .bool (true))] (by kernel_rfl) ?_
  refine EL.done (by kernel_rfl) ?_
  refine EQ.code ?_
  refine EW.ret (by kernel_rfl) ?_
  simp only [sv, Option.some.injEq, Prod.mk.injEq] at H
  obtain ⟨rfl, rfl, rfl, rfl⟩ := H
  exact EQ.leave (.tuple #[sv d1 d3 c4, .bool (true)]) (by kernel_rfl) ⟨_, rfl, g1, g3, d1, d3, rfl, (hS.re [1, 1] [] rfl (sub_cons 0 rfl (sub_tail (sub_tail (sub_self)))))⟩
 rw [if_neg i6] at H
 refine EW.sq (by kernel_rfl) ?_
 refine EW.rg (by kernel_rfl) ?_
 refine EL.quick 2 [2, 3] [(2, sv none 0 ([] : List (List S59))), (3, .bool (false))] (by kernel_rfl) ?_
 refine EL.done (by kernel_rfl) ?_
 refine EQ.code ?_
 refine EW.ret (by kernel_rfl) ?_
 refine EQ.ret ?_
 have hS := St.nilDeep hS 56 59 kS59
 simp only [sv, Option.some.injEq, Prod.mk.injEq] at H
 obtain ⟨rfl, rfl, rfl, rfl⟩ := H
 exact EQ.leave (.tuple #[sv none 0 ([] : List (List S59)), .bool (false)]) (by kernel_rfl) ⟨_, rfl, g1, g3, none, 0, rfl, (hS.re [0, 1] [2] rfl (sub_cons 0 rfl (sub_tail (sub_tail (sub_self)))))⟩

/-! ### confidant/confidantref5.SameCode: function 40 -/
def confidantref5_SameCode.l0 (K : Nat) (a1 : List S59) (a2 : List S59) : Nat → Int → Option Bool
 | 0, _ => none
 | n + 1, a0 => if a0 < (a1.length : Int) then (if 0 ≤ a0 then (if a0 < (a2.length : Int) then (if ((((a1.getD a0.toNat zS59).f0) == ((a2.getD a0.toNat zS59).f0)) && ((((a1.getD a0.toNat zS59).f1) == ((a2.getD a0.toNat zS59).f1)) && true)) = true then (confidantref5_SameCode.l0 K a1 a2 n (IntKind.i64.wrap (a0 + 1))) else (some false)) else none) else none) else (some true)
def confidantref5_SameCode.f (K : Nat) (a1 : List S59) (a2 : List S59) : Option Bool := if (a1.length : Int) = (a2.length : Int) then (confidantref5_SameCode.l0 K a1 a2 K 0) else (some false)
set_option maxRecDepth 100000 in
theorem confidantref5_SameCode.calls {K : Nat} {a1 : List S59} {a2 : List S59} {a5 : Option Addr} {a3 : Nat} {a6 : Option Addr} {a4 : Nat} {b4 : Bool} {B w : World} {os : List Ass} {rs : List Ro} (H : confidantref5_SameCode.f K a1 a2 = some b4) (hS : St B w (os) (Ro.sl kS59 a5 a3 a1 :: Ro.sl kS59 a6 a4 a2 :: rs)) :
  Calls Tryz.prog 40 [sv a5 a3 a1, sv a6 a4 a2].toArray w (fun en w' => ∃ v, en = .returned v ∧ v = .bool (b4) ∧ St B w' (os) (Ro.sl kS59 a5 a3 a1 :: Ro.sl kS59 a6 a4 a2 :: rs)) := by
 unfold confidantref5_SameCode.f at H
 refine calls_of_EW (args := [sv a5 a3 a1, sv a6 a4 a2]) (c := Cd40) 26 Tryz.func40 (by kernel_rfl) (by kernel_rfl) (by kernel_rfl) ?_
 refine EW.sq (by kernel_rfl) ?_
 refine EW.rg (by kernel_rfl) ?_
 refine EL.quick 1 [0, 1] [(0, sv a5 a3 a1), (1, sv a6 a4 a2)] (by kernel_rfl) ?_
 refine EL.done (by kernel_rfl) ?_
 refine EQ.code ?_
 refine EW.sq (by kernel_rfl) ?_
 refine EW.sq (by kernel_rfl) ?_
 refine EW.rg (by kernel_rfl) ?_
 refine EL.quick 5 [0, 1, 10] [(0, sv a5 a3 a1), (1, sv a6 a4 a2), (10, .bool (!(decide ((a1.length : Int) = (a2.length : Int)))))] (by kernel_rfl) ?_
 refine EL.done (by kernel_rfl) ?_
 refine EQ.code ?_
 refine EW.cdQ (b := !(decide ((a1.length : Int) = (a2.length : Int)))) ((a1.length : Int) = (a2.length : Int)) (false) (by kernel_rfl) (by kernel_rfl) ⟨fun h => (by rw [decide_eq_true h] <;> rfl), fun h => (by rw [decide_eq_false h] <;> rfl)⟩ (fun b1 => ?_) (fun b1 => ?_)
 ·rw [if_pos b1] at H
  refine EW.skip (by kernel_rfl) ?_
  refine EQ.code ?_
  refine EW.sq (by kernel_rfl) ?_
  refine EW.sq (by kernel_rfl) ?_
  refine EW.rg (by kernel_rfl) ?_
  refine EL.quick 1 [0, 1, 5] [(0, sv a5 a3 a1), (1, sv a6 a4 a2), (5, ia 0)] (by kernel_rfl) ?_
  refine EL.done (by kernel_rfl) ?_
  refine EQ.code ?_
  refine EW.bl 0 (by kernel_rfl) ?_
  refine EW.lp (fun n a w => ∃ a0 : Int, Sat 26 [(0, sv a5 a3 a1), (1, sv a6 a4 a2), (5, ia a0)] a ∧ St B w (os) (Ro.sl kS59 a5 a3 a1 :: Ro.sl kS59 a6 a4 a2 :: rs) ∧ confidantref5_SameCode.l0 K a1 a2 n a0 = some b4) K (by kernel_rfl) ?_ (fun n a w hI => ?_)
  ·refine EQ.keep [0, 1, 5] [(0, sv a5 a3 a1), (1, sv a6 a4 a2), (5, ia 0)] (by kernel_rfl) ?_
   exact fun a ha => ⟨0, ha, (hS.re [] [] rfl (sub_cons 0 rfl (sub_cons 1 rfl (sub_tail (sub_tail (sub_self)))))), H⟩
  obtain ⟨a0, ha, hS, H⟩ := hI
  obtain _ | n := n
  ·simp [confidantref5_SameCode.l0] at H
  rw [confidantref5_SameCode.l0.eq_2] at H
  refine EW.at ?_ a ha
  clear ha a
  refine EW.sq (by kernel_rfl) ?_
  refine EW.sq (by kernel_rfl) ?_
  refine EW.rg (by kernel_rfl) ?_
  refine EL.quick 4 [0, 1, 5, 14] [(0, sv a5 a3 a1), (1, sv a6 a4 a2), (5, ia a0), (14, .bool (decide (a0 < (a1.length : Int))))] (by kernel_rfl) ?_
  refine EL.done (by kernel_rfl) ?_
  refine EQ.code ?_
  refine EW.cdP (a0 < (a1.length : Int)) (by kernel_rfl) (by kernel_rfl) (fun a9 => ?_) (fun a9 => ?_)
  ·rw [if_pos a9] at H
   refine EW.skip (by kernel_rfl) ?_
   refine EQ.code ?_
   refine EW.sq (by kernel_rfl) ?_
   refine EW.bl 1 (by kernel_rfl) ?_
   refine EW.sq (by kernel_rfl) ?_
   obtain ⟨b0, H⟩ := ite_in H
   obtain ⟨a7, rfl⟩ := St.rd_some hS (Rd.ro 0 rfl) b0 a9
   obtain ⟨b2, H⟩ := ite_in H
   obtain ⟨a8, rfl⟩ := St.rd_some hS (Rd.ro 1 rfl) b0 b2
   have hS := hS.drew
   refine EW.dr (B := B) [] [Ro.sl kS59 (some a7) a3 a1, Ro.sl kS59 (some a8) a4 a2] (by kernel_rfl) (by kernel_rfl) ?_
   have hN : Region.noSelect Cd40.r.r.l.r.l.l.r.l.l.l.ops = true := (by kernel_rfl)
   have hF : freeAll Cd40.r.r.l.r.l.l.r.l.l.l.ops = true := (by kernel_rfl)
   have hC : Core B [] [Ro.sl kS59 (some a7) a3 a1, Ro.sl kS59 (some a8) a4 a2] _ := ⟨_, _, hS⟩
   refine ED.quick hN hF hC [0, 1, 4, 5] [0, 1, 5, 17, 18, 21, 22] 5 [(0, sv (some a7) a3 a1), (1, sv (some a8) a4 a2), (5, ia a0), (17, sv (some a7) a3 a1), (18, ia a0), (21, sv (some a8) a4 a2), (22, ia a0)] (bm 9 51) (by kernel_rfl) (by kernel_rfl) ?_
   refine ED.Y hN hF hC 2 4 (bm 9 55) (by kernel_rfl) (by kernel_rfl) rfl (fun _ _ _ hS => YO.idx 56 2 a7 a1.length a3 .i64 a0 19 (by kernel_rfl) (by kernel_rfl) (by kernel_rfl) (by kernel_rfl) b0 a9) ?_
   refine ED.Y hN hF hC 3 3 (bm 9 63) (by kernel_rfl) (by kernel_rfl) rfl (fun _ _ _ hS => YO.loadEl hS kS59 a7 a3 a1 (Rd.ro 0 rfl) zS59 encS59 encS59_of a0 b0 a9 59 2 0 2 rfl (ag [ia ((a1.getD a0.toNat zS59).f0), ib ((a1.getD a0.toNat zS59).f1)]) 20 (by kernel_rfl) (by kernel_rfl) (by kernel_rfl) (by kernel_rfl)) ?_
   refine ED.Y hN hF hC 6 2 (bm 9 127) (by kernel_rfl) (by kernel_rfl) rfl (fun _ _ _ hS => YO.idx 56 2 a8 a2.length a4 .i64 a0 23 (by kernel_rfl) (by kernel_rfl) (by kernel_rfl) (by kernel_rfl) b0 b2) ?_
   refine ED.Y hN hF hC 7 1 (bm 9 255) (by kernel_rfl) (by kernel_rfl) rfl (fun _ _ _ hS => YO.loadEl hS kS59 a8 a4 a2 (Rd.ro 1 rfl) zS59 encS59 encS59_of a0 b0 b2 59 2 0 2 rfl (ag [ia ((a2.getD a0.toNat zS59).f0), ib ((a2.getD a0.toNat zS59).f1)]) 24 (by kernel_rfl) (by kernel_rfl) (by kernel_rfl) (by kernel_rfl)) ?_
   refine ED.Y hN hF hC 8 0 (bm 9 511) (by kernel_rfl) (by kernel_rfl) rfl (fun _ _ _ hS => YO.eqAg .neq 59 (.tmp 20) (.tmp 24) #[ia ((a1.getD a0.toNat zS59).f0), ib ((a1.getD a0.toNat zS59).f1)] #[ia ((a2.getD a0.toNat zS59).f0), ib ((a2.getD a0.toNat zS59).f1)] ((((a1.getD a0.toNat zS59).f0) == ((a2.getD a0.toNat zS59).f0)) && ((((a1.getD a0.toNat zS59).f1) == ((a2.getD a0.toNat zS59).f1)) && true)) (!(((((a1.getD a0.toNat zS59).f0) == ((a2.getD a0.toNat zS59).f0)) && ((((a1.getD a0.toNat zS59).f1) == ((a2.getD a0.toNat zS59).f1)) && true)))) 25 (by kernel_rfl) (by kernel_rfl) (by kernel_rfl) (by kernel_rfl) (by kernel_rfl) (.inr ⟨rfl, rfl⟩)) ?_
   refine ED.done (by kernel_rfl) ?_
   refine EQ.code ?_
   refine EW.cdQ (b := !(((((a1.getD a0.toNat zS59).f0) == ((a2.getD a0.toNat zS59).f0)) && ((((a1.getD a0.toNat zS59).f1) == ((a2.getD a0.toNat zS59).f1)) && true)))) (((((a1.getD a0.toNat zS59).f0) == ((a2.getD a0.toNat zS59).f0)) && ((((a1.getD a0.toNat zS59).f1) == ((a2.getD a0.toNat zS59).f1)) && true)) = true) (false) (by kernel_rfl) (by kernel_rfl) ⟨fun h => (by rw [h] <;> rfl), fun h => (by rw [Bool.eq_false_iff.2 h] <;> rfl)⟩ (fun b3 => ?_) (fun b3 => ?_)
   ·rw [if_pos b3] at H
    refine EW.skip (by kernel_rfl) ?_
    refine EQ.pop ?_
    refine EQ.code ?_
    refine EW.rg (by kernel_rfl) ?_
    refine EL.quick 3 [0, 1, 5] [(0, sv (some a7) a3 a1), (1, sv (some a8) a4 a2), (5, ia (IntKind.i64.wrap (a0 + 1)))] (by kernel_rfl) ?_
    refine EL.done (by kernel_rfl) ?_
    refine EQ.to ?_
    refine EQ.keep [0, 1, 5] [(0, sv (some a7) a3 a1), (1, sv (some a8) a4 a2), (5, ia (IntKind.i64.wrap (a0 + 1)))] (by kernel_rfl) ?_
    exact fun a ha => ⟨n, Nat.lt_succ_self n, IntKind.i64.wrap (a0 + 1), ha, (hS.re [] [] rfl (sub_cons 0 rfl (sub_cons 1 rfl (sub_tail (sub_tail (sub_self)))))), H⟩
   rw [if_neg b3] at H
   refine EW.sq (by kernel_rfl) ?_
   refine EW.rg (by kernel_rfl) ?_
   refine EL.quick 1 [4] [(4, .bool (false))] (by kernel_rfl) ?_
   refine EL.done (by kernel_rfl) ?_
   refine EQ.code ?_
   refine EW.ret (by kernel_rfl) ?_
   refine EQ.ret ?_
   refine EQ.ret ?_
   refine EQ.ret ?_
   refine EQ.ret ?_
   refine EQ.ret ?_
   obtain rfl := Option.some.inj H
   exact EQ.leave (.bool (false)) (by kernel_rfl) ⟨_, rfl, rfl, (hS.re [] [] rfl (sub_self))⟩
  rw [if_neg a9] at H
  refine EW.exit (id := 0) (by kernel_rfl) ?_
  refine EQ.exitCode ?_
  refine EQ.exitTo ?_
  refine EQ.exitHere ?_
  refine EQ.code ?_
  refine EW.sq (by kernel_rfl) ?_
  refine EW.rg (by kernel_rfl) ?_
  refine EL.quick 1 [4] [(4, .bool (true))] (by kernel_rfl) ?_
  refine EL.done (by kernel_rfl) ?_
  refine EQ.code ?_
  refine EW.ret (by kernel_rfl) ?_
  obtain rfl := Option.some.inj H
  exact EQ.leave (.bool (true)) (by kernel_rfl) ⟨_, rfl, rfl, (hS.re [] [] rfl (sub_self))⟩
 rw [if_neg b1] at H
 refine EW.sq (by kernel_rfl) ?_
 refine EW.rg (by kernel_rfl) ?_
 refine EL.quick 1 [4] [(4, .bool (false))] (by kernel_rfl) ?_
 refine EL.done (by kernel_rfl) ?_
 refine EQ.code ?_
 refine EW.ret (by kernel_rfl) ?_
 refine EQ.ret ?_
 obtain rfl := Option.some.inj H
 exact EQ.leave (.bool (false)) (by kernel_rfl) ⟨_, rfl, rfl, (hS.re [] [] rfl (sub_self))⟩

/-! ### confidant/confidantref5.Same: function 15 -/
def confidantref5_Same.l0 (K : Nat) (a0 : List (List S59)) (a1 : List (List S59)) : Nat → Int → Option Bool
 | 0, _ => none
 | n + 1, a2 => if a2 < (a0.length : Int) then (if 0 ≤ a2 then (if a2 < (a1.length : Int) then (b1 (confidantref5_SameCode.f K (a0.getD a2.toNat []) (a1.getD a2.toNat [])) fun (a9 : Bool) => (if a9 = true then (confidantref5_Same.l0 K a0 a1 n (IntKind.i64.wrap (a2 + 1))) else (some false))) else none) else none) else (some true)
def confidantref5_Same.f (K : Nat) (a0 : List (List S59)) (a1 : List (List S59)) : Option Bool := if (a0.length : Int) = (a1.length : Int) then (confidantref5_Same.l0 K a0 a1 K 0) else (some false)
set_option maxRecDepth 100000 in
theorem confidantref5_Same.calls {K : Nat} {a0 : List (List S59)} {a1 : List (List S59)} {a7 : Option Addr} {a3 : Nat} {a8 : Option Addr} {a4 : Nat} {b6 : Bool} {B w : World} {os : List Ass} {rs : List Ro} (H : confidantref5_Same.f K a0 a1 = some b6) (hS : St B w (os) (Ro.sl (Kd.slice kS59) a7 a3 a0 :: Ro.sl (Kd.slice kS59) a8 a4 a1 :: rs)) :
  Calls Tryz.prog 15 [sv a7 a3 a0, sv a8 a4 a1].toArray w (fun en w' => ∃ v, en = .returned v ∧ v = .bool (b6) ∧ St B w' (os) (Ro.sl (Kd.slice kS59) a7 a3 a0 :: Ro.sl (Kd.slice kS59) a8 a4 a1 :: rs)) := by
 unfold confidantref5_Same.f at H
 refine calls_of_EW (args := [sv a7 a3 a0, sv a8 a4 a1]) (c := Cd15) 27 Tryz.func15 (by kernel_rfl) (by kernel_rfl) (by kernel_rfl) ?_
 refine EW.sq (by kernel_rfl) ?_
 refine EW.rg (by kernel_rfl) ?_
 refine EL.quick 1 [0, 1] [(0, sv a7 a3 a0), (1, sv a8 a4 a1)] (by kernel_rfl) ?_
 refine EL.done (by kernel_rfl) ?_
 refine EQ.code ?_
 refine EW.sq (by kernel_rfl) ?_
 refine EW.sq (by kernel_rfl) ?_
 refine EW.rg (by kernel_rfl) ?_
 refine EL.quick 5 [0, 1, 10] [(0, sv a7 a3 a0), (1, sv a8 a4 a1), (10, .bool (!(decide ((a0.length : Int) = (a1.length : Int)))))] (by kernel_rfl) ?_
 refine EL.done (by kernel_rfl) ?_
 refine EQ.code ?_
 refine EW.cdQ (b := !(decide ((a0.length : Int) = (a1.length : Int)))) ((a0.length : Int) = (a1.length : Int)) (false) (by kernel_rfl) (by kernel_rfl) ⟨fun h => (by rw [decide_eq_true h] <;> rfl), fun h => (by rw [decide_eq_false h] <;> rfl)⟩ (fun b4 => ?_) (fun b4 => ?_)
 ·rw [if_pos b4] at H
  refine EW.skip (by kernel_rfl) ?_
  refine EQ.code ?_
  refine EW.sq (by kernel_rfl) ?_
  refine EW.sq (by kernel_rfl) ?_
  refine EW.rg (by kernel_rfl) ?_
  refine EL.quick 1 [0, 1, 5] [(0, sv a7 a3 a0), (1, sv a8 a4 a1), (5, ia 0)] (by kernel_rfl) ?_
  refine EL.done (by kernel_rfl) ?_
  refine EQ.code ?_
  refine EW.bl 0 (by kernel_rfl) ?_
  refine EW.lp (fun n a w => ∃ a2 : Int, Sat 27 [(0, sv a7 a3 a0), (1, sv a8 a4 a1), (5, ia a2)] a ∧ St B w (os) (Ro.sl (Kd.slice kS59) a7 a3 a0 :: Ro.sl (Kd.slice kS59) a8 a4 a1 :: rs) ∧ confidantref5_Same.l0 K a0 a1 n a2 = some b6) K (by kernel_rfl) ?_ (fun n a w hI => ?_)
  ·refine EQ.keep [0, 1, 5] [(0, sv a7 a3 a0), (1, sv a8 a4 a1), (5, ia 0)] (by kernel_rfl) ?_
   exact fun a ha => ⟨0, ha, (hS.re [] [] rfl (sub_cons 0 rfl (sub_cons 1 rfl (sub_tail (sub_tail (sub_self)))))), H⟩
  obtain ⟨a2, ha, hS, H⟩ := hI
  obtain _ | n := n
  ·simp [confidantref5_Same.l0] at H
  rw [confidantref5_Same.l0.eq_2] at H
  refine EW.at ?_ a ha
  clear ha a
  refine EW.sq (by kernel_rfl) ?_
  refine EW.sq (by kernel_rfl) ?_
  refine EW.rg (by kernel_rfl) ?_
  refine EL.quick 4 [0, 1, 5, 14] [(0, sv a7 a3 a0), (1, sv a8 a4 a1), (5, ia a2), (14, .bool (decide (a2 < (a0.length : Int))))] (by kernel_rfl) ?_
  refine EL.done (by kernel_rfl) ?_
  refine EQ.code ?_
  refine EW.cdP (a2 < (a0.length : Int)) (by kernel_rfl) (by kernel_rfl) (fun b2 => ?_) (fun b2 => ?_)
  ·rw [if_pos b2] at H
   refine EW.skip (by kernel_rfl) ?_
   refine EQ.code ?_
   refine EW.sq (by kernel_rfl) ?_
   refine EW.bl 1 (by kernel_rfl) ?_
   refine EW.sq (by kernel_rfl) ?_
   obtain ⟨b0, H⟩ := ite_in H
   obtain ⟨a5, rfl⟩ := St.rd_some hS (Rd.ro 0 rfl) b0 b2
   obtain ⟨b3, H⟩ := ite_in H
   obtain ⟨a6, rfl⟩ := St.rd_some hS (Rd.ro 1 rfl) b0 b3
   obtain ⟨a9, c5, H⟩ := b1_out H
   refine EW.mt (fun a w => Sat 27 [(0, sv (some a5) a3 a0), (1, sv (some a6) a4 a1), (5, ia a2), (26, .bool (!(a9)))] a ∧ St B w (os) (Ro.sl (Kd.slice kS59) (some a5) a3 a0 :: Ro.sl (Kd.slice kS59) (some a6) a4 a1 :: rs)) (by kernel_rfl) ?_ (fun a w hI => ?_)
   ·have hS := hS.drew
    refine EW.dr (B := B) [] [Ro.sl (Kd.slice kS59) (some a5) a3 a0, Ro.sl (Kd.slice kS59) (some a6) a4 a1] (by kernel_rfl) (by kernel_rfl) ?_
    have hN : Region.noSelect Cd15.r.r.l.r.l.l.r.l.l.l.ops = true := (by kernel_rfl)
    have hF : freeAll Cd15.r.r.l.r.l.l.r.l.l.l.ops = true := (by kernel_rfl)
    have hC : Core B [] [Ro.sl (Kd.slice kS59) (some a5) a3 a0, Ro.sl (Kd.slice kS59) (some a6) a4 a1] _ := ⟨_, _, hS⟩
    refine ED.quick hN hF hC [0, 1, 4, 5] [0, 1, 5, 17, 18, 21, 22] 6 [(0, sv (some a5) a3 a0), (1, sv (some a6) a4 a1), (5, ia a2), (17, sv (some a5) a3 a0), (18, ia a2), (21, sv (some a6) a4 a1), (22, ia a2)] (bm 10 51) (by kernel_rfl) (by kernel_rfl) ?_
    refine ED.Y hN hF hC 2 5 (bm 10 55) (by kernel_rfl) (by kernel_rfl) rfl (fun _ _ _ hS => YO.idx 26 1 a5 a0.length a3 .i64 a2 19 (by kernel_rfl) (by kernel_rfl) (by kernel_rfl) (by kernel_rfl) b0 b2) ?_
    refine ED.Y hN hF hC 6 4 (bm 10 119) (by kernel_rfl) (by kernel_rfl) rfl (fun _ _ _ hS => YO.idx 26 1 a6 a1.length a4 .i64 a2 23 (by kernel_rfl) (by kernel_rfl) (by kernel_rfl) (by kernel_rfl) b0 b3) ?_
    refine ED.two 3 7 3 (by kernel_rfl) (by kernel_rfl) ?_ ?_
    ·refine EO.loadSl hS kS59 a5 a3 a0 (Rd.ro 0 rfl) a2 b0 b2 56 20 (by kernel_rfl) (by kernel_rfl) (by kernel_rfl) (by kernel_rfl) ?_
     intro b7 c1 hS
     have hC := hC.again ⟨_, _, hS.re [] [] rfl (sub_cons 1 rfl (sub_cons 2 rfl sub_self))⟩
     refine ⟨hC, ?_⟩
     refine ED.at' (bm 10 127) (by kernel_rfl) ?_
     refine ED.one 7 2 (bm 10 255) (by kernel_rfl) (by kernel_rfl) (by kernel_rfl) (EO.loadSl hS kS59 a6 a4 a1 (Rd.ro 2 rfl) a2 b0 b3 56 24 (by kernel_rfl) (by kernel_rfl) (by kernel_rfl) (by kernel_rfl) ?_)
     intro b8 c2 hS
     have hC := hC.again ⟨_, _, hS.re [] [] rfl (sub_cons 2 rfl (sub_cons 3 rfl sub_self))⟩
     refine ⟨hC, ?_⟩
     have hS : St B _ (os) (Ro.sl kS59 b7 c1 (a0.getD a2.toNat []) :: Ro.sl kS59 b8 c2 (a1.getD a2.toNat []) :: Ro.sl (Kd.slice kS59) (some a5) a3 a0 :: Ro.sl (Kd.slice kS59) (some a6) a4 a1 :: rs) := hS.re [] [] rfl (sub_cons 1 rfl (sub_cons 0 rfl (sub_tail (sub_tail (sub_self)))))
     have hq := confidantref5_SameCode.calls c5 hS
     refine ED.one 8 1 (bm 10 511) (by kernel_rfl) (by kernel_rfl) (by kernel_rfl) (EO.callD 40 [sv b7 c1 (a0.getD a2.toNat []), sv b8 c2 (a1.getD a2.toNat [])] _ 25 (by kernel_rfl) (by kernel_rfl) (by kernel_rfl) hq ?_)
     rintro v w ⟨rfl, hS⟩
     have hC := hC.again ⟨_, _, hS.re [] [] rfl (sub_cons 2 rfl (sub_cons 3 rfl sub_self))⟩
     refine ⟨hC, ?_⟩
     refine ED.quick hN hF hC [9] [0, 1, 5, 26] 0 [(0, sv (some a5) a3 a0), (1, sv (some a6) a4 a1), (5, ia a2), (26, .bool (!(a9)))] (bm 10 1023) (by kernel_rfl) (by kernel_rfl) ?_
     refine ED.done (by kernel_rfl) ?_
     refine EQ.to ?_
     refine EQ.keep [0, 1, 5, 26] [(0, sv (some a5) a3 a0), (1, sv (some a6) a4 a1), (5, ia a2), (26, .bool (!(a9)))] (by kernel_rfl) ?_
     exact fun a ha => ⟨ha, (hS.re [] [] rfl (sub_cons 2 rfl (sub_cons 3 rfl (sub_tail (sub_tail (sub_tail (sub_tail (sub_self))))))))⟩
    ·refine EO.loadSl hS kS59 a6 a4 a1 (Rd.ro 1 rfl) a2 b0 b3 56 24 (by kernel_rfl) (by kernel_rfl) (by kernel_rfl) (by kernel_rfl) ?_
     intro b9 c3 hS
     have hC := hC.again ⟨_, _, hS.re [] [] rfl (sub_cons 1 rfl (sub_cons 2 rfl sub_self))⟩
     refine ⟨hC, ?_⟩
     refine ED.at' (bm 10 247) (by kernel_rfl) ?_
     refine ED.one 3 2 (bm 10 255) (by kernel_rfl) (by kernel_rfl) (by kernel_rfl) (EO.loadSl hS kS59 a5 a3 a0 (Rd.ro 1 rfl) a2 b0 b2 56 20 (by kernel_rfl) (by kernel_rfl) (by kernel_rfl) (by kernel_rfl) ?_)
     intro c0 c4 hS
     have hC := hC.again ⟨_, _, hS.re [] [] rfl (sub_cons 2 rfl (sub_cons 3 rfl sub_self))⟩
     refine ⟨hC, ?_⟩
     have hS : St B _ (os) (Ro.sl kS59 c0 c4 (a0.getD a2.toNat []) :: Ro.sl kS59 b9 c3 (a1.getD a2.toNat []) :: Ro.sl (Kd.slice kS59) (some a5) a3 a0 :: Ro.sl (Kd.slice kS59) (some a6) a4 a1 :: rs) := hS.re [] [] rfl (sub_cons 0 rfl (sub_cons 1 rfl (sub_tail (sub_tail (sub_self)))))
     have hq := confidantref5_SameCode.calls c5 hS
     refine ED.one 8 1 (bm 10 511) (by kernel_rfl) (by kernel_rfl) (by kernel_rfl) (EO.callD 40 [sv c0 c4 (a0.getD a2.toNat []), sv b9 c3 (a1.getD a2.toNat [])] _ 25 (by kernel_rfl) (by kernel_rfl) (by kernel_rfl) hq ?_)
     rintro v w ⟨rfl, hS⟩
     have hC := hC.again ⟨_, _, hS.re [] [] rfl (sub_cons 2 rfl (sub_cons 3 rfl sub_self))⟩
     refine ⟨hC, ?_⟩
     refine ED.quick hN hF hC [9] [0, 1, 5, 26] 0 [(0, sv (some a5) a3 a0), (1, sv (some a6) a4 a1), (5, ia a2), (26, .bool (!(a9)))] (bm 10 1023) (by kernel_rfl) (by kernel_rfl) ?_
     refine ED.done (by kernel_rfl) ?_
     refine EQ.to ?_
     refine EQ.keep [0, 1, 5, 26] [(0, sv (some a5) a3 a0), (1, sv (some a6) a4 a1), (5, ia a2), (26, .bool (!(a9)))] (by kernel_rfl) ?_
     exact fun a ha => ⟨ha, (hS.re [] [] rfl (sub_cons 2 rfl (sub_cons 3 rfl (sub_tail (sub_tail (sub_tail (sub_tail (sub_self))))))))⟩
   ·obtain ⟨ha, hS⟩ := hI
    refine EQ.at ?_ a ha
    clear ha a
    refine EQ.code ?_
    refine EW.cdQ (b := !(a9)) (a9 = true) (false) (by kernel_rfl) (by kernel_rfl) ⟨fun h => (by rw [h] <;> rfl), fun h => (by rw [Bool.eq_false_iff.2 h] <;> rfl)⟩ (fun b5 => ?_) (fun b5 => ?_)
    ·rw [if_pos b5] at H
     refine EW.skip (by kernel_rfl) ?_
     refine EQ.pop ?_
     refine EQ.code ?_
     refine EW.rg (by kernel_rfl) ?_
     refine EL.quick 3 [0, 1, 5] [(0, sv (some a5) a3 a0), (1, sv (some a6) a4 a1), (5, ia (IntKind.i64.wrap (a2 + 1)))] (by kernel_rfl) ?_
     refine EL.done (by kernel_rfl) ?_
     refine EQ.to ?_
     refine EQ.keep [0, 1, 5] [(0, sv (some a5) a3 a0), (1, sv (some a6) a4 a1), (5, ia (IntKind.i64.wrap (a2 + 1)))] (by kernel_rfl) ?_
     exact fun a ha => ⟨n, Nat.lt_succ_self n, IntKind.i64.wrap (a2 + 1), ha, (hS.re [] [] rfl (sub_cons 0 rfl (sub_cons 1 rfl (sub_tail (sub_tail (sub_self)))))), H⟩
    rw [if_neg b5] at H
    refine EW.sq (by kernel_rfl) ?_
    refine EW.rg (by kernel_rfl) ?_
    refine EL.quick 1 [4] [(4, .bool (false))] (by kernel_rfl) ?_
    refine EL.done (by kernel_rfl) ?_
    refine EQ.code ?_
    refine EW.ret (by kernel_rfl) ?_
    refine EQ.ret ?_
    refine EQ.ret ?_
    refine EQ.ret ?_
    refine EQ.ret ?_
    refine EQ.ret ?_
    obtain rfl := Option.some.inj H
    exact EQ.leave (.bool (false)) (by kernel_rfl) ⟨_, rfl, rfl, (hS.re [] [] rfl (sub_self))⟩
  rw [if_neg b2] at H
  refine EW.exit (id := 0) (by kernel_rfl) ?_
  refine EQ.exitCode ?_
  refine EQ.exitTo ?_
  refine EQ.exitHere ?_
  refine EQ.code ?_
  refine EW.sq (by kernel_rfl) ?_
  refine EW.rg (by kernel_rfl) ?_
  refine EL.quick 1 [4] [(4, .bool (true))] (by kernel_rfl) ?_
  refine EL.done (by kernel_rfl) ?_
  refine EQ.code ?_
  refine EW.ret (by kernel_rfl) ?_
  obtain rfl := Option.some.inj H
  exact EQ.leave (.bool (true)) (by kernel_rfl) ⟨_, rfl, rfl, (hS.re [] [] rfl (sub_self))⟩
 rw [if_neg b4] at H
 refine EW.sq (by kernel_rfl) ?_
 refine EW.rg (by kernel_rfl) ?_
 refine EL.quick 1 [4] [(4, .bool (false))] (by kernel_rfl) ?_
 refine EL.done (by kernel_rfl) ?_
 refine EQ.code ?_
 refine EW.ret (by kernel_rfl) ?_
 refine EQ.ret ?_
 obtain rfl := Option.some.inj H
 exact EQ.leave (.bool (false)) (by kernel_rfl) ⟨_, rfl, rfl, (hS.re [] [] rfl (sub_self))⟩

/-! ### (*confidant/pack.Reader).Left: function 18 -/
def pack_Reader_Left.f (K : Nat) (a0 : List Int) (a4 : Int) : Option (List Int × Int × Int) := some (a0, a4, (a0.length : Int))
set_option maxRecDepth 100000 in
theorem pack_Reader_Left.calls {K : Nat} {a0 : List Int} {a4 : Int} {a1 : Nat} {a2 : Option Addr} {a3 : Nat} {a5 : List Int} {a8 : Int} {a9 : Int} {B w : World} {os : List Ass} {rs : List Ro} (H : pack_Reader_Left.f K a0 a4 = some (a5, a8, a9)) (hS : St B w (Ass.box 80 a1 [sv a2 a3 a0, ia a4] :: os) (Ro.sl (Kd.int .u8) a2 a3 a0 :: rs)) :
  Calls Tryz.prog 18 [pt a1 0].toArray w (fun en w' => ∃ v, en = .returned v ∧ ∃ a6 : Option Addr, ∃ a7 : Nat, v = ia a9 ∧ St B w' (Ass.box 80 a1 [sv a6 a7 a5, ia a8] :: os) (Ro.sl (Kd.int .u8) a6 a7 a5 :: Ro.sl (Kd.int .u8) a2 a3 a0 :: rs)) := by
 unfold pack_Reader_Left.f at H
 refine calls_of_EW (args := [pt a1 0]) (c := Cd18) 8 Tryz.func18 (by kernel_rfl) (by kernel_rfl) (by kernel_rfl) ?_
 refine EW.sq (by kernel_rfl) ?_
 refine EW.rg (by kernel_rfl) ?_
 refine EL.quick 1 [0] [(0, pt a1 0)] (by kernel_rfl) ?_
 refine EL.done (by kernel_rfl) ?_
 refine EQ.code ?_
 refine EW.sq (by kernel_rfl) ?_
 refine EW.rg (by kernel_rfl) ?_
 refine EL.quick 3 [5] [(5, pt a1 0)] (by kernel_rfl) ?_
 refine EL.of (EO.Y (YO.loadBox hS 0 rfl 22 0 1 (sv a2 a3 a0) 6 (by kernel_rfl) (by kernel_rfl) (by kernel_rfl) (by kernel_rfl)) ?_)
 refine EL.quick 2 [2] [(2, ia (a0.length : Int))] (by kernel_rfl) ?_
 refine EL.done (by kernel_rfl) ?_
 refine EQ.code ?_
 refine EW.ret (by kernel_rfl) ?_
 simp only [sv, Option.some.injEq, Prod.mk.injEq] at H
 obtain ⟨rfl, rfl, rfl⟩ := H
 exact EQ.leave (ia (a0.length : Int)) (by kernel_rfl) ⟨_, rfl, a2, a3, rfl, (hS.re [0] [] rfl (sub_cons 0 rfl (sub_self)))⟩

/-! ### confidant/confidantlaw7.some: function 20 -/
def confidantlaw7_some.l0 (K : Nat) (a1 : List Int) (a0 : List ByteArray) : Nat → ByteArray → Int → Option ByteArray
 | 0, _, _ => none
 | n + 1, a4, a2 => if a2 < (a1.length : Int) then (if 0 ≤ a2 then (if (a0.length : Int) = 0 then none else (if 0 ≤ (Int.tmod (IntKind.i64.wrap (a1.getD a2.toNat 0)) (a0.length : Int)) then (if (Int.tmod (IntKind.i64.wrap (a1.getD a2.toNat 0)) (a0.length : Int)) < (a0.length : Int) then (if a4.size + (a0.getD (Int.tmod (IntKind.i64.wrap (a1.getD a2.toNat 0)) (a0.length : Int)).toNat ⟨#[]⟩).size ≤ 9223372036854775807 then (if (a4 ++ (a0.getD (Int.tmod (IntKind.i64.wrap (a1.getD a2.toNat 0)) (a0.length : Int)).toNat ⟨#[]⟩)).size + (⟨#[10]⟩ : ByteArray).size ≤ 9223372036854775807 then (confidantlaw7_some.l0 K a1 a0 n ((a4 ++ (a0.getD (Int.tmod (IntKind.i64.wrap (a1.getD a2.toNat 0)) (a0.length : Int)).toNat ⟨#[]⟩)) ++ (⟨#[10]⟩ : ByteArray)) (IntKind.i64.wrap (a2 + 1))) else none) else none) else none) else none)) else none) else (some a4)
def confidantlaw7_some.f (K : Nat) (a1 : List Int) : Option ByteArray := lt ([(⟨#[102, 117, 110, 99]⟩ : ByteArray), (⟨#[102, 117, 110, 99]⟩ : ByteArray), (⟨#[112, 117, 115, 104, 32, 49]⟩ : ByteArray), (⟨#[114, 101, 116]⟩ : ByteArray), (⟨#[97, 100, 100]⟩ : ByteArray), (⟨#[106, 117, 109, 112, 32, 48]⟩ : ByteArray), (⟨#[102, 111, 114, 107, 32, 49]⟩ : ByteArray), (⟨#[112, 117, 115, 104]⟩ : ByteArray), (⟨#[114, 101, 116, 32, 49]⟩ : ByteArray), (⟨#[]⟩ : ByteArray), (⟨#[120]⟩ : ByteArray), (⟨#[102, 97, 105, 108, 32, 45, 51]⟩ : ByteArray), (⟨#[102, 117, 110, 99, 32, 49]⟩ : ByteArray), (⟨#[108, 111, 97, 100, 32, 51]⟩ : ByteArray), (⟨#[112, 117, 115, 104, 32, 57, 57, 57, 57, 57, 57, 57, 57, 57, 57, 57]⟩ : ByteArray)] : List ByteArray) fun a0 => (confidantlaw7_some.l0 K a1 a0 K (⟨#[]⟩ : ByteArray) 0)
set_option maxRecDepth 100000 in
theorem confidantlaw7_some.calls {K : Nat} {a1 : List Int} {a6 : Option Addr} {a3 : Nat} {b0 : ByteArray} {B w : World} {os : List Ass} {rs : List Ro} (H : confidantlaw7_some.f K a1 = some b0) (hS : St B w (os) (Ro.sl (Kd.int .u8) a6 a3 a1 :: rs)) :
  Calls Tryz.prog 20 [sv a6 a3 a1].toArray w (fun en w' => ∃ v, en = .returned v ∧ v = .string b0 ∧ St B w' (os) (Ro.sl (Kd.int .u8) a6 a3 a1 :: rs)) := by
 unfold confidantlaw7_some.f at H
 refine calls_of_EW (args := [sv a6 a3 a1]) (c := Cd20) 28 Tryz.func20 (by kernel_rfl) (by kernel_rfl) (by kernel_rfl) ?_
 refine EW.sq (by kernel_rfl) ?_
 refine EW.rg (by kernel_rfl) ?_
 refine EL.quick 1 [0] [(0, sv a6 a3 a1)] (by kernel_rfl) ?_
 refine EL.done (by kernel_rfl) ?_
 refine EQ.code ?_
 refine EW.sq (by kernel_rfl) ?_
 refine EW.rg (by kernel_rfl) ?_
 obtain ⟨a0, b3, H⟩ := lt_out H
 refine EL.of (EO.lit hS Kd.str 9 28 15 #[(0, .string (⟨#[102, 117, 110, 99]⟩ : ByteArray)), (1, .string (⟨#[102, 117, 110, 99]⟩ : ByteArray)), (2, .string (⟨#[112, 117, 115, 104, 32, 49]⟩ : ByteArray)), (3, .string (⟨#[114, 101, 116]⟩ : ByteArray)), (4, .string (⟨#[97, 100, 100]⟩ : ByteArray)), (5, .string (⟨#[106, 117, 109, 112, 32, 48]⟩ : ByteArray)), (6, .string (⟨#[102, 111, 114, 107, 32, 49]⟩ : ByteArray)), (7, .string (⟨#[112, 117, 115, 104]⟩ : ByteArray)), (8, .string (⟨#[114, 101, 116, 32, 49]⟩ : ByteArray)), (9, .string (⟨#[]⟩ : ByteArray)), (10, .string (⟨#[120]⟩ : ByteArray)), (11, .string (⟨#[102, 97, 105, 108, 32, 45, 51]⟩ : ByteArray)), (12, .string (⟨#[102, 117, 110, 99, 32, 49]⟩ : ByteArray)), (13, .string (⟨#[108, 111, 97, 100, 32, 51]⟩ : ByteArray)), (14, .string (⟨#[112, 117, 115, 104, 32, 57, 57, 57, 57, 57, 57, 57, 57, 57, 57, 57]⟩ : ByteArray))] [.string (⟨#[102, 117, 110, 99]⟩ : ByteArray), .string (⟨#[102, 117, 110, 99]⟩ : ByteArray), .string (⟨#[112, 117, 115, 104, 32, 49]⟩ : ByteArray), .string (⟨#[114, 101, 116]⟩ : ByteArray), .string (⟨#[97, 100, 100]⟩ : ByteArray), .string (⟨#[106, 117, 109, 112, 32, 48]⟩ : ByteArray), .string (⟨#[102, 111, 114, 107, 32, 49]⟩ : ByteArray), .string (⟨#[112, 117, 115, 104]⟩ : ByteArray), .string (⟨#[114, 101, 116, 32, 49]⟩ : ByteArray), .string (⟨#[]⟩ : ByteArray), .string (⟨#[120]⟩ : ByteArray), .string (⟨#[102, 97, 105, 108, 32, 45, 51]⟩ : ByteArray), .string (⟨#[102, 117, 110, 99, 32, 49]⟩ : ByteArray), .string (⟨#[108, 111, 97, 100, 32, 51]⟩ : ByteArray), .string (⟨#[112, 117, 115, 104, 32, 57, 57, 57, 57, 57, 57, 57, 57, 57, 57, 57]⟩ : ByteArray)] a0 6 (by kernel_rfl) (by kernel_rfl) (by kernel_rfl) (fun _ => (by kernel_rfl)) (by rw [b3]; rfl) (by kernel_rfl) (fun w G hr => (by rw [b3]; exact ⟨[.string (⟨#[102, 117, 110, 99]⟩ : ByteArray)], [.string (⟨#[102, 117, 110, 99]⟩ : ByteArray), .string (⟨#[112, 117, 115, 104, 32, 49]⟩ : ByteArray), .string (⟨#[114, 101, 116]⟩ : ByteArray), .string (⟨#[97, 100, 100]⟩ : ByteArray), .string (⟨#[106, 117, 109, 112, 32, 48]⟩ : ByteArray), .string (⟨#[102, 111, 114, 107, 32, 49]⟩ : ByteArray), .string (⟨#[112, 117, 115, 104]⟩ : ByteArray), .string (⟨#[114, 101, 116, 32, 49]⟩ : ByteArray), .string (⟨#[]⟩ : ByteArray), .string (⟨#[120]⟩ : ByteArray), .string (⟨#[102, 97, 105, 108, 32, 45, 51]⟩ : ByteArray), .string (⟨#[102, 117, 110, 99, 32, 49]⟩ : ByteArray), .string (⟨#[108, 111, 97, 100, 32, 51]⟩ : ByteArray), .string (⟨#[112, 117, 115, 104, 32, 57, 57, 57, 57, 57, 57, 57, 57, 57, 57, 57]⟩ : ByteArray)], rfl, rfl, ⟨[.string (⟨#[102, 117, 110, 99]⟩ : ByteArray)], [.string (⟨#[112, 117, 115, 104, 32, 49]⟩ : ByteArray), .string (⟨#[114, 101, 116]⟩ : ByteArray), .string (⟨#[97, 100, 100]⟩ : ByteArray), .string (⟨#[106, 117, 109, 112, 32, 48]⟩ : ByteArray), .string (⟨#[102, 111, 114, 107, 32, 49]⟩ : ByteArray), .string (⟨#[112, 117, 115, 104]⟩ : ByteArray), .string (⟨#[114, 101, 116, 32, 49]⟩ : ByteArray), .string (⟨#[]⟩ : ByteArray), .string (⟨#[120]⟩ : ByteArray), .string (⟨#[102, 97, 105, 108, 32, 45, 51]⟩ : ByteArray), .string (⟨#[102, 117, 110, 99, 32, 49]⟩ : ByteArray), .string (⟨#[108, 111, 97, 100, 32, 51]⟩ : ByteArray), .string (⟨#[112, 117, 115, 104, 32, 57, 57, 57, 57, 57, 57, 57, 57, 57, 57, 57]⟩ : ByteArray)], rfl, rfl, ⟨[.string (⟨#[112, 117, 115, 104, 32, 49]⟩ : ByteArray)], [.string (⟨#[114, 101, 116]⟩ : ByteArray), .string (⟨#[97, 100, 100]⟩ : ByteArray), .string (⟨#[106, 117, 109, 112, 32, 48]⟩ : ByteArray), .string (⟨#[102, 111, 114, 107, 32, 49]⟩ : ByteArray), .string (⟨#[112, 117, 115, 104]⟩ : ByteArray), .string (⟨#[114, 101, 116, 32, 49]⟩ : ByteArray), .string (⟨#[]⟩ : ByteArray), .string (⟨#[120]⟩ : ByteArray), .string (⟨#[102, 97, 105, 108, 32, 45, 51]⟩ : ByteArray), .string (⟨#[102, 117, 110, 99, 32, 49]⟩ : ByteArray), .string (⟨#[108, 111, 97, 100, 32, 51]⟩ : ByteArray), .string (⟨#[112, 117, 115, 104, 32, 57, 57, 57, 57, 57, 57, 57, 57, 57, 57, 57]⟩ : ByteArray)], rfl, rfl, ⟨[.string (⟨#[114, 101, 116]⟩ : ByteArray)], [.string (⟨#[97, 100, 100]⟩ : ByteArray), .string (⟨#[106, 117, 109, 112, 32, 48]⟩ : ByteArray), .string (⟨#[102, 111, 114, 107, 32, 49]⟩ : ByteArray), .string (⟨#[112, 117, 115, 104]⟩ : ByteArray), .string (⟨#[114, 101, 116, 32, 49]⟩ : ByteArray), .string (⟨#[]⟩ : ByteArray), .string (⟨#[120]⟩ : ByteArray), .string (⟨#[102, 97, 105, 108, 32, 45, 51]⟩ : ByteArray), .string (⟨#[102, 117, 110, 99, 32, 49]⟩ : ByteArray), .string (⟨#[108, 111, 97, 100, 32, 51]⟩ : ByteArray), .string (⟨#[112, 117, 115, 104, 32, 57, 57, 57, 57, 57, 57, 57, 57, 57, 57, 57]⟩ : ByteArray)], rfl, rfl, ⟨[.string (⟨#[97, 100, 100]⟩ : ByteArray)], [.string (⟨#[106, 117, 109, 112, 32, 48]⟩ : ByteArray), .string (⟨#[102, 111, 114, 107, 32, 49]⟩ : ByteArray), .string (⟨#[112, 117, 115, 104]⟩ : ByteArray), .string (⟨#[114, 101, 116, 32, 49]⟩ : ByteArray), .string (⟨#[]⟩ : ByteArray), .string (⟨#[120]⟩ : ByteArray), .string (⟨#[102, 97, 105, 108, 32, 45, 51]⟩ : ByteArray), .string (⟨#[102, 117, 110, 99, 32, 49]⟩ : ByteArray), .string (⟨#[108, 111, 97, 100, 32, 51]⟩ : ByteArray), .string (⟨#[112, 117, 115, 104, 32, 57, 57, 57, 57, 57, 57, 57, 57, 57, 57, 57]⟩ : ByteArray)], rfl, rfl, ⟨[.string (⟨#[106, 117, 109, 112, 32, 48]⟩ : ByteArray)], [.string (⟨#[102, 111, 114, 107, 32, 49]⟩ : ByteArray), .string (⟨#[112, 117, 115, 104]⟩ : ByteArray), .string (⟨#[114, 101, 116, 32, 49]⟩ : ByteArray), .string (⟨#[]⟩ : ByteArray), .string (⟨#[120]⟩ : ByteArray), .string (⟨#[102, 97, 105, 108, 32, 45, 51]⟩ : ByteArray), .string (⟨#[102, 117, 110, 99, 32, 49]⟩ : ByteArray), .string (⟨#[108, 111, 97, 100, 32, 51]⟩ : ByteArray), .string (⟨#[112, 117, 115, 104, 32, 57, 57, 57, 57, 57, 57, 57, 57, 57, 57, 57]⟩ : ByteArray)], rfl, rfl, ⟨[.string (⟨#[102, 111, 114, 107, 32, 49]⟩ : ByteArray)], [.string (⟨#[112, 117, 115, 104]⟩ : ByteArray), .string (⟨#[114, 101, 116, 32, 49]⟩ : ByteArray), .string (⟨#[]⟩ : ByteArray), .string (⟨#[120]⟩ : ByteArray), .string (⟨#[102, 97, 105, 108, 32, 45, 51]⟩ : ByteArray), .string (⟨#[102, 117, 110, 99, 32, 49]⟩ : ByteArray), .string (⟨#[108, 111, 97, 100, 32, 51]⟩ : ByteArray), .string (⟨#[112, 117, 115, 104, 32, 57, 57, 57, 57, 57, 57, 57, 57, 57, 57, 57]⟩ : ByteArray)], rfl, rfl, ⟨[.string (⟨#[112, 117, 115, 104]⟩ : ByteArray)], [.string (⟨#[114, 101, 116, 32, 49]⟩ : ByteArray), .string (⟨#[]⟩ : ByteArray), .string (⟨#[120]⟩ : ByteArray), .string (⟨#[102, 97, 105, 108, 32, 45, 51]⟩ : ByteArray), .string (⟨#[102, 117, 110, 99, 32, 49]⟩ : ByteArray), .string (⟨#[108, 111, 97, 100, 32, 51]⟩ : ByteArray), .string (⟨#[112, 117, 115, 104, 32, 57, 57, 57, 57, 57, 57, 57, 57, 57, 57, 57]⟩ : ByteArray)], rfl, rfl, ⟨[.string (⟨#[114, 101, 116, 32, 49]⟩ : ByteArray)], [.string (⟨#[]⟩ : ByteArray), .string (⟨#[120]⟩ : ByteArray), .string (⟨#[102, 97, 105, 108, 32, 45, 51]⟩ : ByteArray), .string (⟨#[102, 117, 110, 99, 32, 49]⟩ : ByteArray), .string (⟨#[108, 111, 97, 100, 32, 51]⟩ : ByteArray), .string (⟨#[112, 117, 115, 104, 32, 57, 57, 57, 57, 57, 57, 57, 57, 57, 57, 57]⟩ : ByteArray)], rfl, rfl, ⟨[.string (⟨#[]⟩ : ByteArray)], [.string (⟨#[120]⟩ : ByteArray), .string (⟨#[102, 97, 105, 108, 32, 45, 51]⟩ : ByteArray), .string (⟨#[102, 117, 110, 99, 32, 49]⟩ : ByteArray), .string (⟨#[108, 111, 97, 100, 32, 51]⟩ : ByteArray), .string (⟨#[112, 117, 115, 104, 32, 57, 57, 57, 57, 57, 57, 57, 57, 57, 57, 57]⟩ : ByteArray)], rfl, rfl, ⟨[.string (⟨#[120]⟩ : ByteArray)], [.string (⟨#[102, 97, 105, 108, 32, 45, 51]⟩ : ByteArray), .string (⟨#[102, 117, 110, 99, 32, 49]⟩ : ByteArray), .string (⟨#[108, 111, 97, 100, 32, 51]⟩ : ByteArray), .string (⟨#[112, 117, 115, 104, 32, 57, 57, 57, 57, 57, 57, 57, 57, 57, 57, 57]⟩ : ByteArray)], rfl, rfl, ⟨[.string (⟨#[102, 97, 105, 108, 32, 45, 51]⟩ : ByteArray)], [.string (⟨#[102, 117, 110, 99, 32, 49]⟩ : ByteArray), .string (⟨#[108, 111, 97, 100, 32, 51]⟩ : ByteArray), .string (⟨#[112, 117, 115, 104, 32, 57, 57, 57, 57, 57, 57, 57, 57, 57, 57, 57]⟩ : ByteArray)], rfl, rfl, ⟨[.string (⟨#[102, 117, 110, 99, 32, 49]⟩ : ByteArray)], [.string (⟨#[108, 111, 97, 100, 32, 51]⟩ : ByteArray), .string (⟨#[112, 117, 115, 104, 32, 57, 57, 57, 57, 57, 57, 57, 57, 57, 57, 57]⟩ : ByteArray)], rfl, rfl, ⟨[.string (⟨#[108, 111, 97, 100, 32, 51]⟩ : ByteArray)], [.string (⟨#[112, 117, 115, 104, 32, 57, 57, 57, 57, 57, 57, 57, 57, 57, 57, 57]⟩ : ByteArray)], rfl, rfl, ⟨[.string (⟨#[112, 117, 115, 104, 32, 57, 57, 57, 57, 57, 57, 57, 57, 57, 57, 57]⟩ : ByteArray)], [], rfl, rfl, rfl⟩⟩⟩⟩⟩⟩⟩⟩⟩⟩⟩⟩⟩⟩⟩)) ?_)
 intro a5 w hS
 refine EL.quick 1 [0, 3] [(0, sv a6 a3 a1), (3, sv (some ⟨a5, 0, none⟩) 15 a0)] (by kernel_rfl) ?_
 refine EL.done (by kernel_rfl) ?_
 refine EQ.code ?_
 refine EW.sq (by kernel_rfl) ?_
 refine EW.rg (by kernel_rfl) ?_
 refine EL.quick 1 [0, 3, 4] [(0, sv a6 a3 a1), (3, sv (some ⟨a5, 0, none⟩) 15 a0), (4, .string (⟨#[]⟩ : ByteArray))] (by kernel_rfl) ?_
 refine EL.done (by kernel_rfl) ?_
 refine EQ.code ?_
 refine EW.sq (by kernel_rfl) ?_
 refine EW.sq (by kernel_rfl) ?_
 refine EW.rg (by kernel_rfl) ?_
 refine EL.quick 1 [0, 3, 4, 5] [(0, sv a6 a3 a1), (3, sv (some ⟨a5, 0, none⟩) 15 a0), (4, .string (⟨#[]⟩ : ByteArray)), (5, ia 0)] (by kernel_rfl) ?_
 refine EL.done (by kernel_rfl) ?_
 refine EQ.code ?_
 refine EW.bl 0 (by kernel_rfl) ?_
 refine EW.lp (fun n a w => ∃ a4 : ByteArray, ∃ a2 : Int, Sat 28 [(0, sv a6 a3 a1), (3, sv (some ⟨a5, 0, none⟩) 15 a0), (4, .string a4), (5, ia a2)] a ∧ St B w (Ass.own 9 Kd.str (some ⟨a5, 0, none⟩) 15 a0 :: os) (Ro.sl (Kd.int .u8) a6 a3 a1 :: rs) ∧ confidantlaw7_some.l0 K a1 a0 n a4 a2 = some b0) K (by kernel_rfl) ?_ (fun n a w hI => ?_)
 ·refine EQ.keep [0, 3, 4, 5] [(0, sv a6 a3 a1), (3, sv (some ⟨a5, 0, none⟩) 15 a0), (4, .string (⟨#[]⟩ : ByteArray)), (5, ia 0)] (by kernel_rfl) ?_
  exact fun a ha => ⟨(⟨#[]⟩ : ByteArray), 0, ha, (hS.re [0] [] rfl (sub_cons 0 rfl (sub_tail (sub_self)))), H⟩
 obtain ⟨a4, a2, ha, hS, H⟩ := hI
 obtain _ | n := n
 ·simp [confidantlaw7_some.l0] at H
 rw [confidantlaw7_some.l0.eq_2] at H
 refine EW.at ?_ a ha
 clear ha a
 refine EW.sq (by kernel_rfl) ?_
 refine EW.sq (by kernel_rfl) ?_
 refine EW.rg (by kernel_rfl) ?_
 refine EL.quick 4 [0, 3, 4, 5, 10] [(0, sv a6 a3 a1), (3, sv (some ⟨a5, 0, none⟩) 15 a0), (4, .string a4), (5, ia a2), (10, .bool (decide (a2 < (a1.length : Int))))] (by kernel_rfl) ?_
 refine EL.done (by kernel_rfl) ?_
 refine EQ.code ?_
 refine EW.cdP (a2 < (a1.length : Int)) (by kernel_rfl) (by kernel_rfl) (fun a8 => ?_) (fun a8 => ?_)
 ·rw [if_pos a8] at H
  refine EW.skip (by kernel_rfl) ?_
  refine EQ.code ?_
  refine EW.sq (by kernel_rfl) ?_
  refine EW.bl 1 (by kernel_rfl) ?_
  refine EW.rg (by kernel_rfl) ?_
  refine EL.quick 4 [0, 3, 5, 13, 14, 15, 16] [(0, sv a6 a3 a1), (3, sv (some ⟨a5, 0, none⟩) 15 a0), (5, ia a2), (13, .string a4), (14, sv (some ⟨a5, 0, none⟩) 15 a0), (15, sv a6 a3 a1), (16, ia a2)] (by kernel_rfl) ?_
  obtain ⟨a9, H⟩ := ite_in H
  obtain ⟨a7, rfl⟩ := St.rd_some hS (Rd.ro 0 rfl) a9 a8
  refine EL.of (EO.Y (YO.idx 22 1 a7 a1.length a3 .i64 a2 17 (by kernel_rfl) (by kernel_rfl) (by kernel_rfl) (by kernel_rfl) a9 a8) ?_)
  refine EL.of (EO.Y (YO.loadEl hS (Kd.int .u8) a7 a3 a1 (Rd.ro 0 rfl) 0 (encI .u8) encI_of a2 a9 a8 5 1 0 1 rfl (ig (a1.getD a2.toNat 0)) 18 (by kernel_rfl) (by kernel_rfl) (by kernel_rfl) (by kernel_rfl)) ?_)
  refine EL.quick 3 [0, 3, 5, 13, 14, 19, 21] [(0, sv (some a7) a3 a1), (3, sv (some ⟨a5, 0, none⟩) 15 a0), (5, ia a2), (13, .string a4), (14, sv (some ⟨a5, 0, none⟩) 15 a0), (19, ia (IntKind.i64.wrap (a1.getD a2.toNat 0))), (21, ia (a0.length : Int))] (by kernel_rfl) ?_
  obtain ⟨b4, H⟩ := ite_out H
  refine EL.of (EO.Y (YO.div .rem .i64 (IntKind.i64.wrap (a1.getD a2.toNat 0)) (a0.length : Int) (Int.tmod (IntKind.i64.wrap (a1.getD a2.toNat 0)) (a0.length : Int)) 22 (by kernel_rfl) (by kernel_rfl) (by kernel_rfl) b4 (by first | exact .inl ⟨rfl, rfl⟩ | exact .inr ⟨rfl, rfl⟩)) ?_)
  obtain ⟨b1, H⟩ := ite_in H
  obtain ⟨b2, H⟩ := ite_in H
  refine EL.of (EO.Y (YO.idx 28 1 ⟨a5, 0, none⟩ a0.length 15 .i64 (Int.tmod (IntKind.i64.wrap (a1.getD a2.toNat 0)) (a0.length : Int)) 23 (by kernel_rfl) (by kernel_rfl) (by kernel_rfl) (by kernel_rfl) b1 b2) ?_)
  refine EL.of (EO.Y (YO.loadEl hS Kd.str ⟨a5, 0, none⟩ 15 a0 (Rd.own 0 9 rfl) ⟨#[]⟩ encS encS_of (Int.tmod (IntKind.i64.wrap (a1.getD a2.toNat 0)) (a0.length : Int)) b1 b2 9 1 0 1 rfl (.string (a0.getD (Int.tmod (IntKind.i64.wrap (a1.getD a2.toNat 0)) (a0.length : Int)).toNat ⟨#[]⟩)) 24 (by kernel_rfl) (by kernel_rfl) (by kernel_rfl) (by kernel_rfl)) ?_)
  obtain ⟨b5, H⟩ := ite_in H
  refine EL.of (EO.Y (YO.strCat a4 (a0.getD (Int.tmod (IntKind.i64.wrap (a1.getD a2.toNat 0)) (a0.length : Int)).toNat ⟨#[]⟩) 25 (by kernel_rfl) (by kernel_rfl) (by kernel_rfl) b5) ?_)
  obtain ⟨b6, H⟩ := ite_in H
  refine EL.of (EO.Y (YO.strCat (a4 ++ (a0.getD (Int.tmod (IntKind.i64.wrap (a1.getD a2.toNat 0)) (a0.length : Int)).toNat ⟨#[]⟩)) (⟨#[10]⟩ : ByteArray) 26 (by kernel_rfl) (by kernel_rfl) (by kernel_rfl) b6) ?_)
  refine EL.quick 1 [0, 3, 4, 5] [(0, sv (some a7) a3 a1), (3, sv (some ⟨a5, 0, none⟩) 15 a0), (4, .string ((a4 ++ (a0.getD (Int.tmod (IntKind.i64.wrap (a1.getD a2.toNat 0)) (a0.length : Int)).toNat ⟨#[]⟩)) ++ (⟨#[10]⟩ : ByteArray))), (5, ia a2)] (by kernel_rfl) ?_
  refine EL.done (by kernel_rfl) ?_
  refine EQ.pop ?_
  refine EQ.code ?_
  refine EW.rg (by kernel_rfl) ?_
  refine EL.quick 3 [0, 3, 4, 5] [(0, sv (some a7) a3 a1), (3, sv (some ⟨a5, 0, none⟩) 15 a0), (4, .string ((a4 ++ (a0.getD (Int.tmod (IntKind.i64.wrap (a1.getD a2.toNat 0)) (a0.length : Int)).toNat ⟨#[]⟩)) ++ (⟨#[10]⟩ : ByteArray))), (5, ia (IntKind.i64.wrap (a2 + 1)))] (by kernel_rfl) ?_
  refine EL.done (by kernel_rfl) ?_
  refine EQ.to ?_
  refine EQ.keep [0, 3, 4, 5] [(0, sv (some a7) a3 a1), (3, sv (some ⟨a5, 0, none⟩) 15 a0), (4, .string ((a4 ++ (a0.getD (Int.tmod (IntKind.i64.wrap (a1.getD a2.toNat 0)) (a0.length : Int)).toNat ⟨#[]⟩)) ++ (⟨#[10]⟩ : ByteArray))), (5, ia (IntKind.i64.wrap (a2 + 1)))] (by kernel_rfl) ?_
  exact fun a ha => ⟨n, Nat.lt_succ_self n, ((a4 ++ (a0.getD (Int.tmod (IntKind.i64.wrap (a1.getD a2.toNat 0)) (a0.length : Int)).toNat ⟨#[]⟩)) ++ (⟨#[10]⟩ : ByteArray)), IntKind.i64.wrap (a2 + 1), ha, (hS.re [0] [] rfl (sub_cons 0 rfl (sub_tail (sub_self)))), H⟩
 rw [if_neg a8] at H
 refine EW.exit (id := 0) (by kernel_rfl) ?_
 refine EQ.exitCode ?_
 refine EQ.exitTo ?_
 refine EQ.exitHere ?_
 refine EQ.code ?_
 refine EW.sq (by kernel_rfl) ?_
 refine EW.rg (by kernel_rfl) ?_
 refine EL.quick 2 [2] [(2, .string a4)] (by kernel_rfl) ?_
 refine EL.done (by kernel_rfl) ?_
 refine EQ.code ?_
 refine EW.ret (by kernel_rfl) ?_
 obtain rfl := Option.some.inj H
 exact EQ.leave (.string a4) (by kernel_rfl) ⟨_, rfl, rfl, (hS.re [] [0] rfl (sub_self))⟩

/-! ### confidant/confidantref5.Find: function 66 -/
def confidantref5_Find.l0 (K : Nat) (a0 : List ByteArray) (a2 : ByteArray) : Nat → Int → Option (Int × Bool)
 | 0, _ => none
 | n + 1, a1 => if a1 < (a0.length : Int) then (if 0 ≤ a1 then (if ((a0.getD a1.toNat ⟨#[]⟩).toList == a2.toList) = true then (some (IntKind.i64.wrap (a1 + 1), true)) else (confidantref5_Find.l0 K a0 a2 n (IntKind.i64.wrap (a1 + 1)))) else none) else (some (0, false))
def confidantref5_Find.f (K : Nat) (a2 : ByteArray) : Option (Int × Bool) := b1 (confidantref5_names.f K) fun (a0 : List ByteArray) => (confidantref5_Find.l0 K a0 a2 K 0)
set_option maxRecDepth 100000 in
theorem confidantref5_Find.calls {K : Nat} {a2 : ByteArray} {a9 : Int} {b0 : Bool} {B w : World} {os : List Ass} {rs : List Ro} (H : confidantref5_Find.f K a2 = some (a9, b0)) (hS : St B w (os) (rs)) :
  Calls Tryz.prog 66 [.string a2].toArray w (fun en w' => ∃ v, en = .returned v ∧ v = .tuple #[ia a9, .bool (b0)] ∧ St B w' (os) (rs)) := by
 unfold confidantref5_Find.f at H
 refine calls_of_EW (args := [.string a2]) (c := Cd66) 21 Tryz.func66 (by kernel_rfl) (by kernel_rfl) (by kernel_rfl) ?_
 refine EW.sq (by kernel_rfl) ?_
 refine EW.rg (by kernel_rfl) ?_
 refine EL.quick 2 [0] [(0, .string a2)] (by kernel_rfl) ?_
 refine EL.done (by kernel_rfl) ?_
 refine EQ.code ?_
 refine EW.sq (by kernel_rfl) ?_
 refine EW.rg (by kernel_rfl) ?_
 obtain ⟨a0, b2, H⟩ := b1_out H
 have hq := confidantref5_names.calls b2 hS
 refine EL.of (EO.callD 67 [] _ 6 (by kernel_rfl) (by kernel_rfl) (by kernel_rfl) hq ?_)
 rintro v w ⟨a4, a3, rfl, hS⟩
 refine EL.quick 1 [0, 4] [(0, .string a2), (4, sv a4 a3 a0)] (by kernel_rfl) ?_
 refine EL.done (by kernel_rfl) ?_
 refine EQ.code ?_
 refine EW.sq (by kernel_rfl) ?_
 refine EW.sq (by kernel_rfl) ?_
 refine EW.rg (by kernel_rfl) ?_
 refine EL.quick 1 [0, 4, 5] [(0, .string a2), (4, sv a4 a3 a0), (5, ia 0)] (by kernel_rfl) ?_
 refine EL.done (by kernel_rfl) ?_
 refine EQ.code ?_
 refine EW.bl 0 (by kernel_rfl) ?_
 refine EW.lp (fun n a w => ∃ a1 : Int, Sat 21 [(0, .string a2), (4, sv a4 a3 a0), (5, ia a1)] a ∧ St B w (Ass.own 9 Kd.str a4 a3 a0 :: os) (rs) ∧ confidantref5_Find.l0 K a0 a2 n a1 = some (a9, b0)) K (by kernel_rfl) ?_ (fun n a w hI => ?_)
 ·refine EQ.keep [0, 4, 5] [(0, .string a2), (4, sv a4 a3 a0), (5, ia 0)] (by kernel_rfl) ?_
  exact fun a ha => ⟨0, ha, (hS.re [0] [] rfl (sub_self)), H⟩
 obtain ⟨a1, ha, hS, H⟩ := hI
 obtain _ | n := n
 ·simp [confidantref5_Find.l0] at H
 rw [confidantref5_Find.l0.eq_2] at H
 refine EW.at ?_ a ha
 clear ha a
 refine EW.sq (by kernel_rfl) ?_
 refine EW.sq (by kernel_rfl) ?_
 refine EW.rg (by kernel_rfl) ?_
 refine EL.quick 4 [0, 4, 5, 10] [(0, .string a2), (4, sv a4 a3 a0), (5, ia a1), (10, .bool (decide (a1 < (a0.length : Int))))] (by kernel_rfl) ?_
 refine EL.done (by kernel_rfl) ?_
 refine EQ.code ?_
 refine EW.cdP (a1 < (a0.length : Int)) (by kernel_rfl) (by kernel_rfl) (fun a5 => ?_) (fun a5 => ?_)
 ·rw [if_pos a5] at H
  refine EW.skip (by kernel_rfl) ?_
  refine EQ.code ?_
  refine EW.sq (by kernel_rfl) ?_
  refine EW.bl 1 (by kernel_rfl) ?_
  refine EW.sq (by kernel_rfl) ?_
  refine EW.rg (by kernel_rfl) ?_
  refine EL.quick 2 [0, 4, 5, 13, 14] [(0, .string a2), (4, sv a4 a3 a0), (5, ia a1), (13, sv a4 a3 a0), (14, ia a1)] (by kernel_rfl) ?_
  obtain ⟨a7, H⟩ := ite_in H
  obtain ⟨a6, rfl⟩ := St.rd_some hS (Rd.own 0 9 rfl) a7 a5
  refine EL.of (EO.Y (YO.idx 28 1 a6 a0.length a3 .i64 a1 15 (by kernel_rfl) (by kernel_rfl) (by kernel_rfl) (by kernel_rfl) a7 a5) ?_)
  refine EL.of (EO.Y (YO.loadEl hS Kd.str a6 a3 a0 (Rd.own 0 9 rfl) ⟨#[]⟩ encS encS_of a1 a7 a5 9 1 0 1 rfl (.string (a0.getD a1.toNat ⟨#[]⟩)) 16 (by kernel_rfl) (by kernel_rfl) (by kernel_rfl) (by kernel_rfl)) ?_)
  refine EL.quick 2 [0, 4, 5, 18] [(0, .string a2), (4, sv (some a6) a3 a0), (5, ia a1), (18, .bool (((a0.getD a1.toNat ⟨#[]⟩).toList == a2.toList)))] (by kernel_rfl) ?_
  refine EL.done (by kernel_rfl) ?_
  refine EQ.code ?_
  refine EW.cdP' (((a0.getD a1.toNat ⟨#[]⟩).toList == a2.toList)) (by kernel_rfl) (by kernel_rfl) (fun a8 => ?_) (fun a8 => ?_)
  ·rw [if_pos a8] at H
   refine EW.sq (by kernel_rfl) ?_
   refine EW.rg (by kernel_rfl) ?_
   refine EL.quick 4 [2, 3] [(2, ia (IntKind.i64.wrap (a1 + 1))), (3, .bool (true))] (by kernel_rfl) ?_
   refine EL.done (by kernel_rfl) ?_
   refine EQ.code ?_
   refine EW.ret (by kernel_rfl) ?_
   refine EQ.ret ?_
   refine EQ.ret ?_
   refine EQ.ret ?_
   refine EQ.ret ?_
   refine EQ.ret ?_
   simp only [sv, Option.some.injEq, Prod.mk.injEq] at H
   obtain ⟨rfl, rfl⟩ := H
   exact EQ.leave (.tuple #[ia (IntKind.i64.wrap (a1 + 1)), .bool (true)]) (by kernel_rfl) ⟨_, rfl, rfl, (hS.re [] [0] rfl (sub_self))⟩
  rw [if_neg a8] at H
  refine EW.skip (by kernel_rfl) ?_
  refine EQ.pop ?_
  refine EQ.code ?_
  refine EW.rg (by kernel_rfl) ?_
  refine EL.quick 3 [0, 4, 5] [(0, .string a2), (4, sv (some a6) a3 a0), (5, ia (IntKind.i64.wrap (a1 + 1)))] (by kernel_rfl) ?_
  refine EL.done (by kernel_rfl) ?_
  refine EQ.to ?_
  refine EQ.keep [0, 4, 5] [(0, .string a2), (4, sv (some a6) a3 a0), (5, ia (IntKind.i64.wrap (a1 + 1)))] (by kernel_rfl) ?_
  exact fun a ha => ⟨n, Nat.lt_succ_self n, IntKind.i64.wrap (a1 + 1), ha, (hS.re [0] [] rfl (sub_self)), H⟩
 rw [if_neg a5] at H
 refine EW.exit (id := 0) (by kernel_rfl) ?_
 refine EQ.exitCode ?_
 refine EQ.exitTo ?_
 refine EQ.exitHere ?_
 refine EQ.code ?_
 refine EW.sq (by kernel_rfl) ?_
 refine EW.rg (by kernel_rfl) ?_
 refine EL.quick 2 [2, 3] [(2, ia 0), (3, .bool (false))] (by kernel_rfl) ?_
 refine EL.done (by kernel_rfl) ?_
 refine EQ.code ?_
 refine EW.ret (by kernel_rfl) ?_
 simp only [sv, Option.some.injEq, Prod.mk.injEq] at H
 obtain ⟨rfl, rfl⟩ := H
 exact EQ.leave (.tuple #[ia 0, .bool (false)]) (by kernel_rfl) ⟨_, rfl, rfl, (hS.re [] [0] rfl (sub_self))⟩

/-! ### confidant/confidantref5.Parse: function 46 -/
def confidantref5_Parse.l2 (K : Nat) (a2 : List Int) (a3 : Int) (a0 : ByteArray) (b9 : (List Int) → Option (Int × Int × Bool)) : Nat → Int → Option (Int × Int × Bool)
 | 0, _ => none
 | n + 1, a5 => if a5 < (a2.length : Int) then (lt (confidantref5_Parse.l2 K a2 a3 a0 b9 n (IntKind.i64.wrap (a5 + 1))) fun d6 => (if 0 ≤ a5 then (lt (fun (c4 : Bool) => (if c4 = true then (b1 (confidantref5_Text.f K a3 (IntKind.i32.wrap (a2.getD a5.toNat 0))) fun (d8 : ByteArray) => (if (d8.toList == a0.toList) = true then (some (a3, IntKind.i32.wrap (a2.getD a5.toNat 0), true)) else (d6))) else (d6))) fun d7 => (if (a2.getD a5.toNat 0) ≥ (-2147483648) then (d7 (decide ((a2.getD a5.toNat 0) ≤ 2147483647))) else (d7 false))) else none)) else (b9 a2)
def confidantref5_Parse.l1 (K : Nat) (a0 : ByteArray) (b8 : Int → Option (Int × Int × Bool)) (a6 : Int) : Nat → Int → Int → Option (Int × Int × Bool)
 | 0, _, _ => none
 | n + 1, a8, a4 => lt (fun (c2 : Bool) => (if c2 = true then (lt (fun (b6 : Int) => (confidantref5_Parse.l1 K a0 b8 a6 n b6 (IntKind.i64.wrap (a4 + 1)))) fun d4 => (lt (fun (c3 : Bool) => (if c3 = true then (if 0 ≤ a4 then (if a4 < (a0.size : Int) then (lt (IntKind.i64.wrap ((IntKind.i64.wrap (10 * a8)) + (IntKind.i64.wrap (IntKind.u8.wrap ((sAt a0 a4) - 48))))) fun c8 => (d4 c8)) else none) else none) else (d4 a8))) fun d5 => (if 0 ≤ a4 then (if a4 < (a0.size : Int) then (if (sAt a0 a4) ≥ 48 then (d5 (decide ((sAt a0 a4) ≤ 57))) else (d5 false)) else none) else none))) else (b8 a8))) fun d3 => (if a4 < (a0.size : Int) then (d3 (decide (a4 < (IntKind.i64.wrap (a6 + 13))))) else (d3 false))
def confidantref5_Parse.l0 (K : Nat) (b7 : Int → Option (Int × Int × Bool)) (a0 : ByteArray) : Nat → Int → Option (Int × Int × Bool)
 | 0, _ => none
 | n + 1, a7 => lt (fun (c1 : Bool) => (if c1 = true then (confidantref5_Parse.l0 K b7 a0 n (IntKind.i64.wrap (a7 + 1))) else (b7 a7))) fun d2 => (if a7 < (a0.size : Int) then (if 0 ≤ a7 then (d2 (!(decide ((sAt a0 a7) = 32)))) else none) else (d2 false))
def confidantref5_Parse.f (K : Nat) (a0 : ByteArray) : Option (Int × Int × Bool) := lt (fun (a6 : Int) => (if 0 ≤ a6 then (if a6 ≤ (a0.size : Int) then (b2 (confidantref5_Find.f K (a0.extract 0 a6.toNat)) fun (a3 : Int) (c0 : Bool) => (if c0 = true then (lt (fun (b0 : Int) => (lt (fun (c7 : List Int) => (some (0, 0, false))) fun b9 => (lt ([b0, IntKind.i64.wrap (0 - b0)] : List Int) fun a2 => (confidantref5_Parse.l2 K a2 a3 a0 b9 K 0)))) fun b8 => (confidantref5_Parse.l1 K a0 b8 a6 K 0 (IntKind.i64.wrap (a6 + 1)))) else (some (0, 0, false)))) else none) else none)) fun b7 => (confidantref5_Parse.l0 K b7 a0 K 0)
set_option maxRecDepth 100000 in
theorem confidantref5_Parse.calls {K : Nat} {a0 : ByteArray} {b3 : Int} {b4 : Int} {b5 : Bool} {B w : World} {os : List Ass} {rs : List Ro} (H : confidantref5_Parse.f K a0 = some (b3, b4, b5)) (hS : St B w (os) (rs)) :
  Calls Tryz.prog 46 [.string a0].toArray w (fun en w' => ∃ v, en = .returned v ∧ v = .tuple #[ag [ia b3, ib b4], .bool (b5)] ∧ St B w' (os) (rs)) := by
 unfold confidantref5_Parse.f at H
 refine calls_of_EW (args := [.string a0]) (c := Cd46) 92 Tryz.func46 (by kernel_rfl) (by kernel_rfl) (by kernel_rfl) ?_
 refine EW.sq (by kernel_rfl) ?_
 refine EW.rg (by kernel_rfl) ?_
 refine EL.of (EO.alloc hS 59 (ag [ia 0, ib 0]) [ia 0, ib 0] 2 (by kernel_rfl) (by kernel_rfl) (by kernel_rfl) (by kernel_rfl) (by first | rfl | kernel_rfl) ?_)
 intro a1 w hS
 refine EL.quick 1 [0, 2] [(0, .string a0), (2, pt a1 0)] (by kernel_rfl) ?_
 refine EL.done (by kernel_rfl) ?_
 refine EQ.code ?_
 refine EW.sq (by kernel_rfl) ?_
 refine EW.rg (by kernel_rfl) ?_
 refine EL.quick 1 [0, 2, 4] [(0, .string a0), (2, pt a1 0), (4, ia 0)] (by kernel_rfl) ?_
 refine EL.done (by kernel_rfl) ?_
 refine EQ.code ?_
 obtain ⟨b7, f7, H⟩ := lt_out H
 refine EW.ct (fun a w => ∃ a6 : Int, Sat 92 [(0, .string a0), (2, pt a1 0), (4, ia a6)] a ∧ St B w (Ass.box 59 a1 [ia 0, ib 0] :: os) (rs) ∧ b7 a6 = some (b3, b4, b5)) (by kernel_rfl) ?_ (fun a w hI => ?_)
 ·refine EW.bl 0 (by kernel_rfl) ?_
  refine EW.lp (fun n a w => ∃ a7 : Int, Sat 92 [(0, .string a0), (2, pt a1 0), (4, ia a7)] a ∧ St B w (Ass.box 59 a1 [ia 0, ib 0] :: os) (rs) ∧ confidantref5_Parse.l0 K b7 a0 n a7 = some (b3, b4, b5)) K (by kernel_rfl) ?_ (fun n a w hI => ?_)
  ·refine EQ.keep [0, 2, 4] [(0, .string a0), (2, pt a1 0), (4, ia 0)] (by kernel_rfl) ?_
   exact fun a ha => ⟨0, ha, (hS.re [0] [] rfl (sub_self)), H⟩
  obtain ⟨a7, ha, hS, H⟩ := hI
  obtain _ | n := n
  ·simp [confidantref5_Parse.l0] at H
  rw [confidantref5_Parse.l0.eq_2] at H
  refine EW.at ?_ a ha
  clear ha a
  refine EW.sq (by kernel_rfl) ?_
  obtain ⟨d2, f8, H⟩ := lt_out H
  refine EW.ct (fun a w => ∃ c1 : Bool, Sat 92 [(0, .string a0), (2, pt a1 0), (4, ia a7), (21, .bool (c1))] a ∧ St B w (Ass.box 59 a1 [ia 0, ib 0] :: os) (rs) ∧ d2 c1 = some (b3, b4, b5)) (by kernel_rfl) ?_ (fun a w hI => ?_)
  ·refine EW.rg (by kernel_rfl) ?_
   refine EL.quick 5 [0, 2, 4, 16] [(0, .string a0), (2, pt a1 0), (4, ia a7), (16, .bool (decide (a7 < (a0.size : Int))))] (by kernel_rfl) ?_
   by_cases c5 : a7 < (a0.size : Int)
   ·rw [if_pos c5] at H
    refine EL.keep [0, 2, 4, 16] [(0, .string a0), (2, pt a1 0), (4, ia a7), (16, .bool (decide (a7 < (a0.size : Int))))] (by kernel_rfl) ?_
    refine EL.as' [(0, .string a0), (2, pt a1 0), (4, ia a7), (16, .bool (true))] (by simp only [sv, dec_t c5, Bool.not_true, Bool.not_false]) ?_
    refine EL.quick 2 [0, 2, 4, 16, 17, 18] [(0, .string a0), (2, pt a1 0), (4, ia a7), (16, .bool (true)), (17, .string a0), (18, ia a7)] (by kernel_rfl) ?_
    obtain ⟨f2, H⟩ := ite_in H
    refine EL.of (EO.Y (YO.strIdx a0 9 .i64 a7 19 (by kernel_rfl) (by kernel_rfl) (by kernel_rfl) (by kernel_rfl) f2 c5) ?_)
    refine EL.quick 2 [0, 2, 4, 17, 18, 19, 20, 21] [(0, .string a0), (2, pt a1 0), (4, ia a7), (17, .string a0), (18, ia a7), (19, ig (sAt a0 a7)), (20, .bool (!(decide ((sAt a0 a7) = 32)))), (21, .bool (!(decide ((sAt a0 a7) = 32))))] (by kernel_rfl) ?_
    refine EL.done (by kernel_rfl) ?_
    refine EQ.to ?_
    refine EQ.keep [0, 2, 4, 21] [(0, .string a0), (2, pt a1 0), (4, ia a7), (21, .bool (!(decide ((sAt a0 a7) = 32))))] (by kernel_rfl) ?_
    exact fun a ha => ⟨!(decide ((sAt a0 a7) = 32)), ha, (hS.re [0] [] rfl (sub_self)), H⟩
   rw [if_neg c5] at H
   refine EL.keep [0, 2, 4, 16] [(0, .string a0), (2, pt a1 0), (4, ia a7), (16, .bool (decide (a7 < (a0.size : Int))))] (by kernel_rfl) ?_
   refine EL.as' [(0, .string a0), (2, pt a1 0), (4, ia a7), (16, .bool (false))] (by simp only [sv, dec_f c5, Bool.not_true, Bool.not_false]) ?_
   refine EL.quick 5 [0, 2, 4, 21] [(0, .string a0), (2, pt a1 0), (4, ia a7), (21, .bool (false))] (by kernel_rfl) ?_
   refine EL.done (by kernel_rfl) ?_
   refine EQ.to ?_
   refine EQ.keep [0, 2, 4, 21] [(0, .string a0), (2, pt a1 0), (4, ia a7), (21, .bool (false))] (by kernel_rfl) ?_
   exact fun a ha => ⟨false, ha, (hS.re [0] [] rfl (sub_self)), H⟩
  obtain ⟨c1, ha, hS, H⟩ := hI
  rw [f8] at H
  (try dsimp only at H)
  refine EW.at ?_ a ha
  clear ha a
  refine EW.cdP' (c1) (by kernel_rfl) (by kernel_rfl) (fun e2 => ?_) (fun e2 => ?_)
  ·rw [if_pos e2] at H
   refine EW.skip (by kernel_rfl) ?_
   refine EQ.code ?_
   refine EW.bl 1 (by kernel_rfl) ?_
   refine EW.rg (by kernel_rfl) ?_
   refine EL.quick 3 [0, 2, 4] [(0, .string a0), (2, pt a1 0), (4, ia (IntKind.i64.wrap (a7 + 1)))] (by kernel_rfl) ?_
   refine EL.done (by kernel_rfl) ?_
   refine EQ.pop ?_
   refine EQ.to ?_
   refine EQ.keep [0, 2, 4] [(0, .string a0), (2, pt a1 0), (4, ia (IntKind.i64.wrap (a7 + 1)))] (by kernel_rfl) ?_
   exact fun a ha => ⟨n, Nat.lt_succ_self n, IntKind.i64.wrap (a7 + 1), ha, (hS.re [0] [] rfl (sub_self)), H⟩
  rw [if_neg e2] at H
  refine EW.exit (id := 0) (by kernel_rfl) ?_
  refine EQ.exitCode ?_
  refine EQ.exitTo ?_
  refine EQ.exitHere ?_
  refine EQ.to ?_
  refine EQ.keep [0, 2, 4] [(0, .string a0), (2, pt a1 0), (4, ia a7)] (by kernel_rfl) ?_
  exact fun a ha => ⟨a7, ha, (hS.re [0] [] rfl (sub_self)), H⟩
 obtain ⟨a6, ha, hS, H⟩ := hI
 rw [f7] at H
 (try dsimp only at H)
 refine EW.at ?_ a ha
 clear ha a
 refine EW.sq (by kernel_rfl) ?_
 refine EW.rg (by kernel_rfl) ?_
 refine EL.quick 2 [0, 2, 4, 25, 26] [(0, .string a0), (2, pt a1 0), (4, ia a6), (25, .string a0), (26, ia a6)] (by kernel_rfl) ?_
 obtain ⟨g7, H⟩ := ite_in H
 obtain ⟨g8, H⟩ := ite_in H
 refine EL.of (EO.Y (YO.strSlice a0 none (some (ia a6)) 0 a6.toNat 9 27 (by kernel_rfl) (by kernel_rfl) (by kernel_rfl) (by kernel_rfl) (rfl) ((Int.toNat_of_nonneg (by omega)).symm) (by omega) (by omega)) ?_)
 obtain ⟨a3, c0, f5, H⟩ := b2_out H
 have hq := confidantref5_Find.calls f5 hS
 refine EL.of (EO.callD 66 [.string (a0.extract 0 a6.toNat)] _ 28 (by kernel_rfl) (by kernel_rfl) (by kernel_rfl) hq ?_)
 rintro v w ⟨rfl, hS⟩
 refine EL.quick 5 [0, 2, 4, 5, 6] [(0, .string a0), (2, pt a1 0), (4, ia a6), (5, ia a3), (6, .bool (c0))] (by kernel_rfl) ?_
 refine EL.done (by kernel_rfl) ?_
 refine EQ.code ?_
 refine EW.sq (by kernel_rfl) ?_
 refine EW.sq (by kernel_rfl) ?_
 refine EW.rg (by kernel_rfl) ?_
 refine EL.quick 2 [0, 2, 4, 5, 32] [(0, .string a0), (2, pt a1 0), (4, ia a6), (5, ia a3), (32, .bool (!(c0)))] (by kernel_rfl) ?_
 refine EL.done (by kernel_rfl) ?_
 refine EQ.code ?_
 refine EW.cdQ (b := !(c0)) (c0 = true) (false) (by kernel_rfl) (by kernel_rfl) ⟨fun h => (by rw [h] <;> rfl), fun h => (by rw [Bool.eq_false_iff.2 h] <;> rfl)⟩ (fun e3 => ?_) (fun e3 => ?_)
 ·rw [if_pos e3] at H
  refine EW.skip (by kernel_rfl) ?_
  refine EQ.code ?_
  refine EW.sq (by kernel_rfl) ?_
  refine EW.rg (by kernel_rfl) ?_
  refine EL.quick 1 [0, 2, 4, 5, 7] [(0, .string a0), (2, pt a1 0), (4, ia a6), (5, ia a3), (7, ia 0)] (by kernel_rfl) ?_
  refine EL.done (by kernel_rfl) ?_
  refine EQ.code ?_
  obtain ⟨b8, f9, H⟩ := lt_out H
  refine EW.ct (fun a w => ∃ b0 : Int, Sat 92 [(0, .string a0), (2, pt a1 0), (5, ia a3), (7, ia b0)] a ∧ St B w (Ass.box 59 a1 [ia 0, ib 0] :: os) (rs) ∧ b8 b0 = some (b3, b4, b5)) (by kernel_rfl) ?_ (fun a w hI => ?_)
  ·refine EW.sq (by kernel_rfl) ?_
   refine EW.rg (by kernel_rfl) ?_
   refine EL.quick 3 [0, 2, 4, 5, 7, 8] [(0, .string a0), (2, pt a1 0), (4, ia a6), (5, ia a3), (7, ia 0), (8, ia (IntKind.i64.wrap (a6 + 1)))] (by kernel_rfl) ?_
   refine EL.done (by kernel_rfl) ?_
   refine EQ.code ?_
   refine EW.bl 2 (by kernel_rfl) ?_
   refine EW.lp (fun n a w => ∃ a8 : Int, ∃ a4 : Int, Sat 92 [(0, .string a0), (2, pt a1 0), (4, ia a6), (5, ia a3), (7, ia a8), (8, ia a4)] a ∧ St B w (Ass.box 59 a1 [ia 0, ib 0] :: os) (rs) ∧ confidantref5_Parse.l1 K a0 b8 a6 n a8 a4 = some (b3, b4, b5)) K (by kernel_rfl) ?_ (fun n a w hI => ?_)
   ·refine EQ.keep [0, 2, 4, 5, 7, 8] [(0, .string a0), (2, pt a1 0), (4, ia a6), (5, ia a3), (7, ia 0), (8, ia (IntKind.i64.wrap (a6 + 1)))] (by kernel_rfl) ?_
    exact fun a ha => ⟨0, IntKind.i64.wrap (a6 + 1), ha, (hS.re [0] [] rfl (sub_self)), H⟩
   obtain ⟨a8, a4, ha, hS, H⟩ := hI
   obtain _ | n := n
   ·simp [confidantref5_Parse.l1] at H
   rw [confidantref5_Parse.l1.eq_2] at H
   refine EW.at ?_ a ha
   clear ha a
   refine EW.sq (by kernel_rfl) ?_
   obtain ⟨d3, g0, H⟩ := lt_out H
   refine EW.ct (fun a w => ∃ c2 : Bool, Sat 92 [(0, .string a0), (2, pt a1 0), (4, ia a6), (5, ia a3), (7, ia a8), (8, ia a4), (45, .bool (c2))] a ∧ St B w (Ass.box 59 a1 [ia 0, ib 0] :: os) (rs) ∧ d3 c2 = some (b3, b4, b5)) (by kernel_rfl) ?_ (fun a w hI => ?_)
   ·refine EW.rg (by kernel_rfl) ?_
    refine EL.quick 5 [0, 2, 4, 5, 7, 8, 40] [(0, .string a0), (2, pt a1 0), (4, ia a6), (5, ia a3), (7, ia a8), (8, ia a4), (40, .bool (decide (a4 < (a0.size : Int))))] (by kernel_rfl) ?_
    by_cases c9 : a4 < (a0.size : Int)
    ·rw [if_pos c9] at H
     refine EL.keep [0, 2, 4, 5, 7, 8, 40] [(0, .string a0), (2, pt a1 0), (4, ia a6), (5, ia a3), (7, ia a8), (8, ia a4), (40, .bool (decide (a4 < (a0.size : Int))))] (by kernel_rfl) ?_
     refine EL.as' [(0, .string a0), (2, pt a1 0), (4, ia a6), (5, ia a3), (7, ia a8), (8, ia a4), (40, .bool (true))] (by simp only [sv, dec_t c9, Bool.not_true, Bool.not_false]) ?_
     refine EL.quick 5 [0, 2, 4, 5, 7, 8, 41, 42, 43, 44, 45] [(0, .string a0), (2, pt a1 0), (4, ia a6), (5, ia a3), (7, ia a8), (8, ia a4), (41, ia a4), (42, ia a6), (43, ia (IntKind.i64.wrap (a6 + 13))), (44, .bool (decide (a4 < (IntKind.i64.wrap (a6 + 13))))), (45, .bool (decide (a4 < (IntKind.i64.wrap (a6 + 13)))))] (by kernel_rfl) ?_
     refine EL.done (by kernel_rfl) ?_
     refine EQ.to ?_
     refine EQ.keep [0, 2, 4, 5, 7, 8, 45] [(0, .string a0), (2, pt a1 0), (4, ia a6), (5, ia a3), (7, ia a8), (8, ia a4), (45, .bool (decide (a4 < (IntKind.i64.wrap (a6 + 13)))))] (by kernel_rfl) ?_
     exact fun a ha => ⟨decide (a4 < (IntKind.i64.wrap (a6 + 13))), ha, (hS.re [0] [] rfl (sub_self)), H⟩
    rw [if_neg c9] at H
    refine EL.keep [0, 2, 4, 5, 7, 8, 40] [(0, .string a0), (2, pt a1 0), (4, ia a6), (5, ia a3), (7, ia a8), (8, ia a4), (40, .bool (decide (a4 < (a0.size : Int))))] (by kernel_rfl) ?_
    refine EL.as' [(0, .string a0), (2, pt a1 0), (4, ia a6), (5, ia a3), (7, ia a8), (8, ia a4), (40, .bool (false))] (by simp only [sv, dec_f c9, Bool.not_true, Bool.not_false]) ?_
    refine EL.quick 5 [0, 2, 4, 5, 7, 8, 45] [(0, .string a0), (2, pt a1 0), (4, ia a6), (5, ia a3), (7, ia a8), (8, ia a4), (45, .bool (false))] (by kernel_rfl) ?_
    refine EL.done (by kernel_rfl) ?_
    refine EQ.to ?_
    refine EQ.keep [0, 2, 4, 5, 7, 8, 45] [(0, .string a0), (2, pt a1 0), (4, ia a6), (5, ia a3), (7, ia a8), (8, ia a4), (45, .bool (false))] (by kernel_rfl) ?_
    exact fun a ha => ⟨false, ha, (hS.re [0] [] rfl (sub_self)), H⟩
   obtain ⟨c2, ha, hS, H⟩ := hI
   rw [g0] at H
   (try dsimp only at H)
   refine EW.at ?_ a ha
   clear ha a
   refine EW.cdP' (c2) (by kernel_rfl) (by kernel_rfl) (fun e4 => ?_) (fun e4 => ?_)
   ·rw [if_pos e4] at H
    refine EW.skip (by kernel_rfl) ?_
    refine EQ.code ?_
    obtain ⟨d4, g1, H⟩ := lt_out H
    refine EW.ct (fun a w => ∃ b6 : Int, Sat 92 [(0, .string a0), (2, pt a1 0), (4, ia a6), (5, ia a3), (7, ia b6), (8, ia a4)] a ∧ St B w (Ass.box 59 a1 [ia 0, ib 0] :: os) (rs) ∧ d4 b6 = some (b3, b4, b5)) (by kernel_rfl) ?_ (fun a w hI => ?_)
    ·refine EW.bl 3 (by kernel_rfl) ?_
     obtain ⟨d5, g2, H⟩ := lt_out H
     refine EW.ct (fun a w => ∃ c3 : Bool, Sat 92 [(0, .string a0), (2, pt a1 0), (4, ia a6), (5, ia a3), (7, ia a8), (8, ia a4), (57, .bool (c3))] a ∧ St B w (Ass.box 59 a1 [ia 0, ib 0] :: os) (rs) ∧ d5 c3 = some (b3, b4, b5)) (by kernel_rfl) ?_ (fun a w hI => ?_)
     ·refine EW.rg (by kernel_rfl) ?_
      refine EL.quick 2 [0, 2, 4, 5, 7, 8, 48, 49] [(0, .string a0), (2, pt a1 0), (4, ia a6), (5, ia a3), (7, ia a8), (8, ia a4), (48, .string a0), (49, ia a4)] (by kernel_rfl) ?_
      obtain ⟨e8, H⟩ := ite_in H
      obtain ⟨e9, H⟩ := ite_in H
      refine EL.of (EO.Y (YO.strIdx a0 9 .i64 a4 50 (by kernel_rfl) (by kernel_rfl) (by kernel_rfl) (by kernel_rfl) e8 e9) ?_)
      refine EL.quick 2 [0, 2, 4, 5, 7, 8, 52] [(0, .string a0), (2, pt a1 0), (4, ia a6), (5, ia a3), (7, ia a8), (8, ia a4), (52, .bool (decide ((sAt a0 a4) ≥ 48)))] (by kernel_rfl) ?_
      by_cases d0 : (sAt a0 a4) ≥ 48
      ·rw [if_pos d0] at H
       refine EL.keep [0, 2, 4, 5, 7, 8, 52] [(0, .string a0), (2, pt a1 0), (4, ia a6), (5, ia a3), (7, ia a8), (8, ia a4), (52, .bool (decide ((sAt a0 a4) ≥ 48)))] (by kernel_rfl) ?_
       refine EL.as' [(0, .string a0), (2, pt a1 0), (4, ia a6), (5, ia a3), (7, ia a8), (8, ia a4), (52, .bool (true))] (by simp only [sv, dec_t d0, Bool.not_true, Bool.not_false]) ?_
       refine EL.quick 2 [0, 2, 4, 5, 7, 8, 52, 53, 54] [(0, .string a0), (2, pt a1 0), (4, ia a6), (5, ia a3), (7, ia a8), (8, ia a4), (52, .bool (true)), (53, .string a0), (54, ia a4)] (by kernel_rfl) ?_
       refine EL.of (EO.Y (YO.strIdx a0 9 .i64 a4 55 (by kernel_rfl) (by kernel_rfl) (by kernel_rfl) (by kernel_rfl) e8 e9) ?_)
       refine EL.quick 2 [0, 2, 4, 5, 7, 8, 53, 54, 55, 56, 57] [(0, .string a0), (2, pt a1 0), (4, ia a6), (5, ia a3), (7, ia a8), (8, ia a4), (53, .string a0), (54, ia a4), (55, ig (sAt a0 a4)), (56, .bool (decide ((sAt a0 a4) ≤ 57))), (57, .bool (decide ((sAt a0 a4) ≤ 57)))] (by kernel_rfl) ?_
       refine EL.done (by kernel_rfl) ?_
       refine EQ.to ?_
       refine EQ.keep [0, 2, 4, 5, 7, 8, 57] [(0, .string a0), (2, pt a1 0), (4, ia a6), (5, ia a3), (7, ia a8), (8, ia a4), (57, .bool (decide ((sAt a0 a4) ≤ 57)))] (by kernel_rfl) ?_
       exact fun a ha => ⟨decide ((sAt a0 a4) ≤ 57), ha, (hS.re [0] [] rfl (sub_self)), H⟩
      rw [if_neg d0] at H
      refine EL.keep [0, 2, 4, 5, 7, 8, 52] [(0, .string a0), (2, pt a1 0), (4, ia a6), (5, ia a3), (7, ia a8), (8, ia a4), (52, .bool (decide ((sAt a0 a4) ≥ 48)))] (by kernel_rfl) ?_
      refine EL.as' [(0, .string a0), (2, pt a1 0), (4, ia a6), (5, ia a3), (7, ia a8), (8, ia a4), (52, .bool (false))] (by simp only [sv, dec_f d0, Bool.not_true, Bool.not_false]) ?_
      refine EL.quick 5 [0, 2, 4, 5, 7, 8, 57] [(0, .string a0), (2, pt a1 0), (4, ia a6), (5, ia a3), (7, ia a8), (8, ia a4), (57, .bool (false))] (by kernel_rfl) ?_
      refine EL.done (by kernel_rfl) ?_
      refine EQ.to ?_
      refine EQ.keep [0, 2, 4, 5, 7, 8, 57] [(0, .string a0), (2, pt a1 0), (4, ia a6), (5, ia a3), (7, ia a8), (8, ia a4), (57, .bool (false))] (by kernel_rfl) ?_
      exact fun a ha => ⟨false, ha, (hS.re [0] [] rfl (sub_self)), H⟩
     obtain ⟨c3, ha, hS, H⟩ := hI
     rw [g2] at H
     (try dsimp only at H)
     refine EW.at ?_ a ha
     clear ha a
     refine EW.cdP' (c3) (by kernel_rfl) (by kernel_rfl) (fun e5 => ?_) (fun e5 => ?_)
     ·rw [if_pos e5] at H
      refine EW.rg (by kernel_rfl) ?_
      refine EL.quick 4 [0, 2, 4, 5, 8, 59, 60, 61] [(0, .string a0), (2, pt a1 0), (4, ia a6), (5, ia a3), (8, ia a4), (59, ia (IntKind.i64.wrap (10 * a8))), (60, .string a0), (61, ia a4)] (by kernel_rfl) ?_
      obtain ⟨f3, H⟩ := ite_in H
      obtain ⟨f4, H⟩ := ite_in H
      refine EL.of (EO.Y (YO.strIdx a0 9 .i64 a4 62 (by kernel_rfl) (by kernel_rfl) (by kernel_rfl) (by kernel_rfl) f3 f4) ?_)
      refine EL.quick 4 [0, 2, 4, 5, 7, 8] [(0, .string a0), (2, pt a1 0), (4, ia a6), (5, ia a3), (7, ia (IntKind.i64.wrap ((IntKind.i64.wrap (10 * a8)) + (IntKind.i64.wrap (IntKind.u8.wrap ((sAt a0 a4) - 48)))))), (8, ia a4)] (by kernel_rfl) ?_
      obtain ⟨c8, g6, H⟩ := lt_out H
      refine EL.keep [0, 2, 4, 5, 7, 8] [(0, .string a0), (2, pt a1 0), (4, ia a6), (5, ia a3), (7, ia (IntKind.i64.wrap ((IntKind.i64.wrap (10 * a8)) + (IntKind.i64.wrap (IntKind.u8.wrap ((sAt a0 a4) - 48)))))), (8, ia a4)] (by kernel_rfl) ?_
      refine EL.as' [(0, .string a0), (2, pt a1 0), (4, ia a6), (5, ia a3), (7, ia c8), (8, ia a4)] (by subst g6; rfl) ?_
      refine EL.done (by kernel_rfl) ?_
      refine EQ.pop ?_
      refine EQ.to ?_
      refine EQ.keep [0, 2, 4, 5, 7, 8] [(0, .string a0), (2, pt a1 0), (4, ia a6), (5, ia a3), (7, ia c8), (8, ia a4)] (by kernel_rfl) ?_
      exact fun a ha => ⟨c8, ha, (hS.re [0] [] rfl (sub_self)), H⟩
     rw [if_neg e5] at H
     refine EW.skip (by kernel_rfl) ?_
     refine EQ.pop ?_
     refine EQ.to ?_
     refine EQ.keep [0, 2, 4, 5, 7, 8] [(0, .string a0), (2, pt a1 0), (4, ia a6), (5, ia a3), (7, ia a8), (8, ia a4)] (by kernel_rfl) ?_
     exact fun a ha => ⟨a8, ha, (hS.re [0] [] rfl (sub_self)), H⟩
    obtain ⟨b6, ha, hS, H⟩ := hI
    rw [g1] at H
    (try dsimp only at H)
    refine EW.at ?_ a ha
    clear ha a
    refine EW.rg (by kernel_rfl) ?_
    refine EL.quick 3 [0, 2, 4, 5, 7, 8] [(0, .string a0), (2, pt a1 0), (4, ia a6), (5, ia a3), (7, ia b6), (8, ia (IntKind.i64.wrap (a4 + 1)))] (by kernel_rfl) ?_
    refine EL.done (by kernel_rfl) ?_
    refine EQ.to ?_
    refine EQ.keep [0, 2, 4, 5, 7, 8] [(0, .string a0), (2, pt a1 0), (4, ia a6), (5, ia a3), (7, ia b6), (8, ia (IntKind.i64.wrap (a4 + 1)))] (by kernel_rfl) ?_
    exact fun a ha => ⟨n, Nat.lt_succ_self n, b6, IntKind.i64.wrap (a4 + 1), ha, (hS.re [0] [] rfl (sub_self)), H⟩
   rw [if_neg e4] at H
   refine EW.exit (id := 2) (by kernel_rfl) ?_
   refine EQ.exitCode ?_
   refine EQ.exitTo ?_
   refine EQ.exitHere ?_
   refine EQ.to ?_
   refine EQ.keep [0, 2, 5, 7] [(0, .string a0), (2, pt a1 0), (5, ia a3), (7, ia a8)] (by kernel_rfl) ?_
   exact fun a ha => ⟨a8, ha, (hS.re [0] [] rfl (sub_self)), H⟩
  obtain ⟨b0, ha, hS, H⟩ := hI
  rw [f9] at H
  (try dsimp only at H)
  refine EW.at ?_ a ha
  clear ha a
  obtain ⟨b9, g3, H⟩ := lt_out H
  refine EW.ct (fun a w => ∃ c7 : List Int, ∃ d9 : Option Addr, ∃ e0 : Nat, Sat 92 [(2, pt a1 0)] a ∧ St B w (Ass.own 2 (Kd.int .i64) d9 e0 c7 :: Ass.box 59 a1 [ia 0, ib 0] :: os) (rs) ∧ b9 c7 = some (b3, b4, b5)) (by kernel_rfl) ?_ (fun a w hI => ?_)
  ·refine EW.sq (by kernel_rfl) ?_
   refine EW.rg (by kernel_rfl) ?_
   refine EL.quick 3 [0, 2, 5, 66, 68] [(0, .string a0), (2, pt a1 0), (5, ia a3), (66, ia b0), (68, ia (IntKind.i64.wrap (0 - b0)))] (by kernel_rfl) ?_
   obtain ⟨a2, f1, H⟩ := lt_out H
   refine EL.of (EO.lit hS (Kd.int .i64) 2 107 2 #[(0, ia b0), (1, ia (IntKind.i64.wrap (0 - b0)))] [ia b0, ia (IntKind.i64.wrap (0 - b0))] a2 69 (by kernel_rfl) (by kernel_rfl) (by kernel_rfl) (fun _ => (by kernel_rfl)) (by rw [f1]; rfl) (by kernel_rfl) (fun w G hr => (by rw [f1]; exact ⟨[ia b0], [ia (IntKind.i64.wrap (0 - b0))], rfl, rfl, ⟨[ia (IntKind.i64.wrap (0 - b0))], [], rfl, rfl, rfl⟩⟩)) ?_)
   intro a9 w hS
   refine EL.quick 2 [0, 2, 5, 69, 70, 71] [(0, .string a0), (2, pt a1 0), (5, ia a3), (69, sv (some ⟨a9, 0, none⟩) 2 a2), (70, ia (a2.length : Int)), (71, ia 0)] (by kernel_rfl) ?_
   refine EL.done (by kernel_rfl) ?_
   refine EQ.code ?_
   refine EW.bl 4 (by kernel_rfl) ?_
   refine EW.lp (fun n a w => ∃ a5 : Int, Sat 92 [(0, .string a0), (2, pt a1 0), (5, ia a3), (69, sv (some ⟨a9, 0, none⟩) 2 a2), (70, ia (a2.length : Int)), (71, ia a5)] a ∧ St B w (Ass.own 2 (Kd.int .i64) (some ⟨a9, 0, none⟩) 2 a2 :: Ass.box 59 a1 [ia 0, ib 0] :: os) (rs) ∧ confidantref5_Parse.l2 K a2 a3 a0 b9 n a5 = some (b3, b4, b5)) K (by kernel_rfl) ?_ (fun n a w hI => ?_)
   ·refine EQ.keep [0, 2, 5, 69, 70, 71] [(0, .string a0), (2, pt a1 0), (5, ia a3), (69, sv (some ⟨a9, 0, none⟩) 2 a2), (70, ia (a2.length : Int)), (71, ia 0)] (by kernel_rfl) ?_
    exact fun a ha => ⟨0, ha, (hS.re [1, 1] [] rfl (sub_self)), H⟩
   obtain ⟨a5, ha, hS, H⟩ := hI
   obtain _ | n := n
   ·simp [confidantref5_Parse.l2] at H
   rw [confidantref5_Parse.l2.eq_2] at H
   refine EW.at ?_ a ha
   clear ha a
   refine EW.sq (by kernel_rfl) ?_
   refine EW.rg (by kernel_rfl) ?_
   refine EL.quick 1 [0, 2, 5, 69, 70, 71, 72] [(0, .string a0), (2, pt a1 0), (5, ia a3), (69, sv (some ⟨a9, 0, none⟩) 2 a2), (70, ia (a2.length : Int)), (71, ia a5), (72, .bool (decide (a5 < (a2.length : Int))))] (by kernel_rfl) ?_
   refine EL.done (by kernel_rfl) ?_
   refine EQ.code ?_
   refine EW.sq (by kernel_rfl) ?_
   refine EW.cdP (a5 < (a2.length : Int)) (by kernel_rfl) (by kernel_rfl) (fun c6 => ?_) (fun c6 => ?_)
   ·rw [if_pos c6] at H
    refine EW.skip (by kernel_rfl) ?_
    refine EQ.code ?_
    obtain ⟨d6, g4, H⟩ := lt_out H
    refine EW.ct (fun a w => Sat 92 [(0, .string a0), (2, pt a1 0), (5, ia a3), (69, sv (some ⟨a9, 0, none⟩) 2 a2), (70, ia (a2.length : Int)), (71, ia a5)] a ∧ St B w (Ass.own 2 (Kd.int .i64) (some ⟨a9, 0, none⟩) 2 a2 :: Ass.box 59 a1 [ia 0, ib 0] :: os) (rs) ∧ d6 = some (b3, b4, b5)) (by kernel_rfl) ?_ (fun a w hI => ?_)
    ·refine EW.bl 5 (by kernel_rfl) ?_
     refine EW.sq (by kernel_rfl) ?_
     refine EW.rg (by kernel_rfl) ?_
     obtain ⟨f0, H⟩ := ite_in H
     refine EL.of (EO.Y (YO.idx 107 1 ⟨a9, 0, none⟩ a2.length 2 .i64 a5 73 (by kernel_rfl) (by kernel_rfl) (by kernel_rfl) (by kernel_rfl) f0 c6) ?_)
     refine EL.of (EO.Y (YO.loadEl hS (Kd.int .i64) ⟨a9, 0, none⟩ 2 a2 (Rd.own 0 2 rfl) 0 (encI .i64) encI_of a5 f0 c6 2 1 0 1 rfl (ia (a2.getD a5.toNat 0)) 74 (by kernel_rfl) (by kernel_rfl) (by kernel_rfl) (by kernel_rfl)) ?_)
     refine EL.quick 1 [0, 2, 5, 10, 69, 70, 71] [(0, .string a0), (2, pt a1 0), (5, ia a3), (10, ia (a2.getD a5.toNat 0)), (69, sv (some ⟨a9, 0, none⟩) 2 a2), (70, ia (a2.length : Int)), (71, ia a5)] (by kernel_rfl) ?_
     refine EL.done (by kernel_rfl) ?_
     refine EQ.code ?_
     obtain ⟨d7, g5, H⟩ := lt_out H
     refine EW.ct (fun a w => ∃ c4 : Bool, Sat 92 [(0, .string a0), (2, pt a1 0), (5, ia a3), (10, ia (a2.getD a5.toNat 0)), (69, sv (some ⟨a9, 0, none⟩) 2 a2), (70, ia (a2.length : Int)), (71, ia a5), (80, .bool (c4))] a ∧ St B w (Ass.own 2 (Kd.int .i64) (some ⟨a9, 0, none⟩) 2 a2 :: Ass.box 59 a1 [ia 0, ib 0] :: os) (rs) ∧ d7 c4 = some (b3, b4, b5)) (by kernel_rfl) ?_ (fun a w hI => ?_)
     ·refine EW.rg (by kernel_rfl) ?_
      refine EL.quick 3 [0, 2, 5, 10, 69, 70, 71, 77] [(0, .string a0), (2, pt a1 0), (5, ia a3), (10, ia (a2.getD a5.toNat 0)), (69, sv (some ⟨a9, 0, none⟩) 2 a2), (70, ia (a2.length : Int)), (71, ia a5), (77, .bool (decide ((a2.getD a5.toNat 0) ≥ (-2147483648))))] (by kernel_rfl) ?_
      by_cases d1 : (a2.getD a5.toNat 0) ≥ (-2147483648)
      ·rw [if_pos d1] at H
       refine EL.keep [0, 2, 5, 10, 69, 70, 71, 77] [(0, .string a0), (2, pt a1 0), (5, ia a3), (10, ia (a2.getD a5.toNat 0)), (69, sv (some ⟨a9, 0, none⟩) 2 a2), (70, ia (a2.length : Int)), (71, ia a5), (77, .bool (decide ((a2.getD a5.toNat 0) ≥ (-2147483648))))] (by kernel_rfl) ?_
       refine EL.as' [(0, .string a0), (2, pt a1 0), (5, ia a3), (10, ia (a2.getD a5.toNat 0)), (69, sv (some ⟨a9, 0, none⟩) 2 a2), (70, ia (a2.length : Int)), (71, ia a5), (77, .bool (true))] (by simp only [sv, dec_t d1, Bool.not_true, Bool.not_false]) ?_
       refine EL.quick 3 [0, 2, 5, 10, 69, 70, 71, 78, 79, 80] [(0, .string a0), (2, pt a1 0), (5, ia a3), (10, ia (a2.getD a5.toNat 0)), (69, sv (some ⟨a9, 0, none⟩) 2 a2), (70, ia (a2.length : Int)), (71, ia a5), (78, ia (a2.getD a5.toNat 0)), (79, .bool (decide ((a2.getD a5.toNat 0) ≤ 2147483647))), (80, .bool (decide ((a2.getD a5.toNat 0) ≤ 2147483647)))] (by kernel_rfl) ?_
       refine EL.done (by kernel_rfl) ?_
       refine EQ.to ?_
       refine EQ.keep [0, 2, 5, 10, 69, 70, 71, 80] [(0, .string a0), (2, pt a1 0), (5, ia a3), (10, ia (a2.getD a5.toNat 0)), (69, sv (some ⟨a9, 0, none⟩) 2 a2), (70, ia (a2.length : Int)), (71, ia a5), (80, .bool (decide ((a2.getD a5.toNat 0) ≤ 2147483647)))] (by kernel_rfl) ?_
       exact fun a ha => ⟨decide ((a2.getD a5.toNat 0) ≤ 2147483647), ha, (hS.re [1, 1] [] rfl (sub_self)), H⟩
      rw [if_neg d1] at H
      refine EL.keep [0, 2, 5, 10, 69, 70, 71, 77] [(0, .string a0), (2, pt a1 0), (5, ia a3), (10, ia (a2.getD a5.toNat 0)), (69, sv (some ⟨a9, 0, none⟩) 2 a2), (70, ia (a2.length : Int)), (71, ia a5), (77, .bool (decide ((a2.getD a5.toNat 0) ≥ (-2147483648))))] (by kernel_rfl) ?_
      refine EL.as' [(0, .string a0), (2, pt a1 0), (5, ia a3), (10, ia (a2.getD a5.toNat 0)), (69, sv (some ⟨a9, 0, none⟩) 2 a2), (70, ia (a2.length : Int)), (71, ia a5), (77, .bool (false))] (by simp only [sv, dec_f d1, Bool.not_true, Bool.not_false]) ?_
      refine EL.quick 3 [0, 2, 5, 10, 69, 70, 71, 80] [(0, .string a0), (2, pt a1 0), (5, ia a3), (10, ia (a2.getD a5.toNat 0)), (69, sv (some ⟨a9, 0, none⟩) 2 a2), (70, ia (a2.length : Int)), (71, ia a5), (80, .bool (false))] (by kernel_rfl) ?_
      refine EL.done (by kernel_rfl) ?_
      refine EQ.to ?_
      refine EQ.keep [0, 2, 5, 10, 69, 70, 71, 80] [(0, .string a0), (2, pt a1 0), (5, ia a3), (10, ia (a2.getD a5.toNat 0)), (69, sv (some ⟨a9, 0, none⟩) 2 a2), (70, ia (a2.length : Int)), (71, ia a5), (80, .bool (false))] (by kernel_rfl) ?_
      exact fun a ha => ⟨false, ha, (hS.re [1, 1] [] rfl (sub_self)), H⟩
     obtain ⟨c4, ha, hS, H⟩ := hI
     rw [g5] at H
     (try dsimp only at H)
     refine EW.at ?_ a ha
     clear ha a
     refine EW.cdP' (c4) (by kernel_rfl) (by kernel_rfl) (fun e6 => ?_) (fun e6 => ?_)
     ·rw [if_pos e6] at H
      refine EW.sq (by kernel_rfl) ?_
      refine EW.rg (by kernel_rfl) ?_
      refine EL.quick 4 [0, 2, 5, 69, 70, 71, 84] [(0, .string a0), (2, pt a1 0), (5, ia a3), (69, sv (some ⟨a9, 0, none⟩) 2 a2), (70, ia (a2.length : Int)), (71, ia a5), (84, ag [ia a3, ib (IntKind.i32.wrap (a2.getD a5.toNat 0))])] (by kernel_rfl) ?_
      refine EL.of (EO.alloc hS 59 (ag [ia 0, ib 0]) [ia 0, ib 0] 11 (by kernel_rfl) (by kernel_rfl) (by kernel_rfl) (by kernel_rfl) (by first | rfl | kernel_rfl) ?_)
      intro e1 w hS
      refine EL.of (EO.storeBox (os' := Ass.box 59 e1 [ia a3, ib (IntKind.i32.wrap (a2.getD a5.toNat 0))] :: Ass.own 2 (Kd.int .i64) (some ⟨a9, 0, none⟩) 2 a2 :: Ass.box 59 a1 [ia 0, ib 0] :: os) hS 0 rfl 59 0 (ag [ia a3, ib (IntKind.i32.wrap (a2.getD a5.toNat 0))]) [ia a3, ib (IntKind.i32.wrap (a2.getD a5.toNat 0))] (by kernel_rfl) (by kernel_rfl) (by kernel_rfl) (by kernel_rfl) (by kernel_rfl) (by kernel_rfl) rfl rfl ?_)
      intro w hS
      refine EL.done (by kernel_rfl) ?_
      refine EQ.code ?_
      refine EW.sq (by kernel_rfl) ?_
      refine EW.rg (by kernel_rfl) ?_
      refine EL.of (EO.Y (YO.loadBox hS 0 rfl 59 0 2 (ag [ia a3, ib (IntKind.i32.wrap (a2.getD a5.toNat 0))]) 85 (by kernel_rfl) (by kernel_rfl) (by kernel_rfl) (by kernel_rfl)) ?_)
      obtain ⟨d8, f6, H⟩ := b1_out H
      have hq := confidantref5_Text.calls f6 hS
      refine EL.of (EO.callD 22 [ag [ia a3, ib (IntKind.i32.wrap (a2.getD a5.toNat 0))]] _ 86 (by kernel_rfl) (by kernel_rfl) (by kernel_rfl) hq ?_)
      rintro v w ⟨rfl, hS⟩
      refine EL.quick 2 [0, 2, 5, 11, 69, 70, 71, 88] [(0, .string a0), (2, pt a1 0), (5, ia a3), (11, pt e1 0), (69, sv (some ⟨a9, 0, none⟩) 2 a2), (70, ia (a2.length : Int)), (71, ia a5), (88, .bool ((d8.toList == a0.toList)))] (by kernel_rfl) ?_
      refine EL.done (by kernel_rfl) ?_
      refine EQ.code ?_
      refine EW.cdP' ((d8.toList == a0.toList)) (by kernel_rfl) (by kernel_rfl) (fun e7 => ?_) (fun e7 => ?_)
      ·rw [if_pos e7] at H
       refine EW.sq (by kernel_rfl) ?_
       refine EW.rg (by kernel_rfl) ?_
       refine EL.of (EO.Y (YO.loadBox hS 0 rfl 59 0 2 (ag [ia a3, ib (IntKind.i32.wrap (a2.getD a5.toNat 0))]) 89 (by kernel_rfl) (by kernel_rfl) (by kernel_rfl) (by kernel_rfl)) ?_)
       refine EL.of (EO.storeBox (os' := Ass.box 59 e1 [ia a3, ib (IntKind.i32.wrap (a2.getD a5.toNat 0))] :: Ass.own 2 (Kd.int .i64) (some ⟨a9, 0, none⟩) 2 a2 :: Ass.box 59 a1 [ia a3, ib (IntKind.i32.wrap (a2.getD a5.toNat 0))] :: os) hS 2 rfl 59 0 (ag [ia a3, ib (IntKind.i32.wrap (a2.getD a5.toNat 0))]) [ia a3, ib (IntKind.i32.wrap (a2.getD a5.toNat 0))] (by kernel_rfl) (by kernel_rfl) (by kernel_rfl) (by kernel_rfl) (by kernel_rfl) (by kernel_rfl) rfl rfl ?_)
       intro w hS
       refine EL.quick 1 [2, 3] [(2, pt a1 0), (3, .bool (true))] (by kernel_rfl) ?_
       refine EL.done (by kernel_rfl) ?_
       refine EQ.code ?_
       refine EW.ret (by kernel_rfl) ?_
       refine EQ.ret ?_
       refine EQ.ret ?_
       refine EQ.ret ?_
       refine EQ.ret ?_
       refine EQ.ret ?_
       simp only [sv, Option.some.injEq, Prod.mk.injEq] at H
       obtain ⟨rfl, rfl, rfl⟩ := H
       exact EQ.leave2 hS (.cell 2 59) (.tmp 3) (ag [ia a3, ib (IntKind.i32.wrap (a2.getD a5.toNat 0))]) (.bool (true)) (by kernel_rfl) ⟨2, 59, a1, [ia a3, ib (IntKind.i32.wrap (a2.getD a5.toNat 0))], 0, 2, rfl, (by kernel_rfl), (by kernel_rfl)⟩ (oneTmp (by kernel_rfl)) ⟨_, rfl, rfl, (hS.re [] [0, 0, 0] rfl (sub_self))⟩
      rw [if_neg e7] at H
      refine EW.skip (by kernel_rfl) ?_
      refine EQ.pop ?_
      refine EQ.to ?_
      refine EQ.keep [0, 2, 5, 69, 70, 71] [(0, .string a0), (2, pt a1 0), (5, ia a3), (69, sv (some ⟨a9, 0, none⟩) 2 a2), (70, ia (a2.length : Int)), (71, ia a5)] (by kernel_rfl) ?_
      exact fun a ha => ⟨ha, (hS.re [2, 2] [2] rfl (sub_self)), H⟩
     rw [if_neg e6] at H
     refine EW.skip (by kernel_rfl) ?_
     refine EQ.pop ?_
     refine EQ.to ?_
     refine EQ.keep [0, 2, 5, 69, 70, 71] [(0, .string a0), (2, pt a1 0), (5, ia a3), (69, sv (some ⟨a9, 0, none⟩) 2 a2), (70, ia (a2.length : Int)), (71, ia a5)] (by kernel_rfl) ?_
     exact fun a ha => ⟨ha, (hS.re [1, 1] [] rfl (sub_self)), H⟩
    obtain ⟨ha, hS, H⟩ := hI
    rw [g4] at H
    (try dsimp only at H)
    refine EW.at ?_ a ha
    clear ha a
    refine EW.rg (by kernel_rfl) ?_
    refine EL.quick 2 [0, 2, 5, 69, 70, 71] [(0, .string a0), (2, pt a1 0), (5, ia a3), (69, sv (some ⟨a9, 0, none⟩) 2 a2), (70, ia (a2.length : Int)), (71, ia (IntKind.i64.wrap (a5 + 1)))] (by kernel_rfl) ?_
    refine EL.done (by kernel_rfl) ?_
    refine EQ.to ?_
    refine EQ.keep [0, 2, 5, 69, 70, 71] [(0, .string a0), (2, pt a1 0), (5, ia a3), (69, sv (some ⟨a9, 0, none⟩) 2 a2), (70, ia (a2.length : Int)), (71, ia (IntKind.i64.wrap (a5 + 1)))] (by kernel_rfl) ?_
    exact fun a ha => ⟨n, Nat.lt_succ_self n, IntKind.i64.wrap (a5 + 1), ha, (hS.re [1, 1] [] rfl (sub_self)), H⟩
   rw [if_neg c6] at H
   refine EW.exit (id := 4) (by kernel_rfl) ?_
   refine EQ.exitCode ?_
   refine EQ.exitTo ?_
   refine EQ.exitHere ?_
   refine EQ.to ?_
   refine EQ.keep [2] [(2, pt a1 0)] (by kernel_rfl) ?_
   exact fun a ha => ⟨a2, (some ⟨a9, 0, none⟩), 2, ha, (hS.re [1, 1] [] rfl (sub_self)), H⟩
  obtain ⟨c7, d9, e0, ha, hS, H⟩ := hI
  rw [g3] at H
  (try dsimp only at H)
  refine EW.at ?_ a ha
  clear ha a
  refine EW.sq (by kernel_rfl) ?_
  refine EW.rg (by kernel_rfl) ?_
  refine EL.quick 1 [2, 91] [(2, pt a1 0), (91, ag [ia 0, ib 0])] (by kernel_rfl) ?_
  refine EL.of (EO.storeBox (os' := Ass.own 2 (Kd.int .i64) d9 e0 c7 :: Ass.box 59 a1 [ia 0, ib 0] :: os) hS 1 rfl 59 0 (ag [ia 0, ib 0]) [ia 0, ib 0] (by kernel_rfl) (by kernel_rfl) (by kernel_rfl) (by kernel_rfl) (by kernel_rfl) (by kernel_rfl) rfl rfl ?_)
  intro w hS
  refine EL.quick 1 [2, 3] [(2, pt a1 0), (3, .bool (false))] (by kernel_rfl) ?_
  refine EL.done (by kernel_rfl) ?_
  refine EQ.code ?_
  refine EW.ret (by kernel_rfl) ?_
  simp only [sv, Option.some.injEq, Prod.mk.injEq] at H
  obtain ⟨rfl, rfl, rfl⟩ := H
  exact EQ.leave2 hS (.cell 2 59) (.tmp 3) (ag [ia 0, ib 0]) (.bool (false)) (by kernel_rfl) ⟨1, 59, a1, [ia 0, ib 0], 0, 2, rfl, (by kernel_rfl), (by kernel_rfl)⟩ (oneTmp (by kernel_rfl)) ⟨_, rfl, rfl, (hS.re [] [0, 0] rfl (sub_self))⟩
 rw [if_neg e3] at H
 refine EW.sq (by kernel_rfl) ?_
 refine EW.rg (by kernel_rfl) ?_
 refine EL.quick 1 [2, 33] [(2, pt a1 0), (33, ag [ia 0, ib 0])] (by kernel_rfl) ?_
 refine EL.of (EO.storeBox (os' := Ass.box 59 a1 [ia 0, ib 0] :: os) hS 0 rfl 59 0 (ag [ia 0, ib 0]) [ia 0, ib 0] (by kernel_rfl) (by kernel_rfl) (by kernel_rfl) (by kernel_rfl) (by kernel_rfl) (by kernel_rfl) rfl rfl ?_)
 intro w hS
 refine EL.quick 1 [2, 3] [(2, pt a1 0), (3, .bool (false))] (by kernel_rfl) ?_
 refine EL.done (by kernel_rfl) ?_
 refine EQ.code ?_
 refine EW.ret (by kernel_rfl) ?_
 refine EQ.ret ?_
 simp only [sv, Option.some.injEq, Prod.mk.injEq] at H
 obtain ⟨rfl, rfl, rfl⟩ := H
 exact EQ.leave2 hS (.cell 2 59) (.tmp 3) (ag [ia 0, ib 0]) (.bool (false)) (by kernel_rfl) ⟨0, 59, a1, [ia 0, ib 0], 0, 2, rfl, (by kernel_rfl), (by kernel_rfl)⟩ (oneTmp (by kernel_rfl)) ⟨_, rfl, rfl, (hS.re [] [0] rfl (sub_self))⟩

end Go.Proofs.YtiilloijkbabbaaGreatDoor.G
