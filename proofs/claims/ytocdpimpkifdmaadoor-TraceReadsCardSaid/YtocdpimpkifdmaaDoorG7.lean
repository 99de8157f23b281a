import Derived.Test.YtocdpimpkifdmaaDoorProg
import Derived.Test.YtocdpimpkifdmaaDoorFwShort
import Derived.Test.YtocdpimpkifdmaaDoorFwOpen
import Derived.Test.YtocdpimpkifdmaaDoorG0
namespace Go.Proofs.YtocdpimpkifdmaaDoor.G
open Go Go.Fw Go.RowKit Go.Proofs
set_option linter.unusedVariables false
set_option linter.unusedSimpArgs false

noncomputable def Cd4 : Code := bodyOf Tryd.f4

noncomputable def Cd16 : Code := bodyOf Tryd.f16

noncomputable def Cd24 : Code := bodyOf Tryd.f24

noncomputable def Cd28 : Code := bodyOf Tryd.f28

noncomputable def Cd44 : Code := bodyOf Tryd.f44

noncomputable def Cd45 : Code := bodyOf Tryd.f45

noncomputable def Cd61 : Code := bodyOf Tryd.f61

noncomputable def Cd62 : Code := bodyOf Tryd.f62

noncomputable def Cd82 : Code := bodyOf Tryd.f82

/-! ### confidant/confidantref1.Put: function 44 -/
def confidantref1_Put.l1 (K : Nat) (b6 : (List Int) → Option (List Int)) : Nat → (List Int) → Int → Option (List Int)
 | 0, _, _ => none
 | n + 1, a6, a5 => if a5 > 0 then (lt ([bO .u8 (IntKind.u8.wrap (bA .u64 a5 127)) 128] : List Int) fun c3 => (if (c3.length + a6.length) * 1 ≤ 140737488355328 then (lt (c3 ++ a6) fun b3 => (confidantref1_Put.l1 K b6 n b3 (sR .u64 a5 7))) else none)) else (b6 a6)
def confidantref1_Put.l0 (K : Nat) (l66 : List Int) : Nat → (List Int) → Int → Option (List Int)
 | 0, _, _ => none
 | n + 1, a1, a0 => if a0 < (l66.length : Int) then (lt (fun (b0 : List Int) (c8 : List Int) => (confidantref1_Put.l0 K l66 n b0 (IntKind.i64.wrap (a0 + 1)))) fun d0 => (if 0 ≤ a0 then (lt ([IntKind.u8.wrap (bA .u64 (l66.getD a0.toNat 0) 127)] : List Int) fun b2 => (lt (fun (a7 : List Int) => (if (a1.length + a7.length) * 1 ≤ 140737488355328 then (lt (a1 ++ a7) fun b7 => (d0 b7 a7)) else none)) fun b6 => (confidantref1_Put.l1 K b6 K b2 (sR .u64 (l66.getD a0.toNat 0) 7)))) else none)) else (some a1)
def confidantref1_Put.f (K : Nat) (l66 : List Int) : Option (List Int) := confidantref1_Put.l0 K l66 K ([] : List Int) 0
set_option maxRecDepth 100000 in
theorem confidantref1_Put.calls {K : Nat} {l66 : List Int} {A67 : Option Addr} {C68 : Nat} {b8 : List Int} {B w : World} {os : List Ass} {rs : List Ro} (H : confidantref1_Put.f K l66 = some b8) (hS : St B w (os) (Ro.sl (Kd.int .u64) A67 C68 l66 :: rs)) :
  Calls Tryd.prog 44 [sv A67 C68 l66].toArray w (fun en w' => ∃ v, en = .returned v ∧ ∃ d1 : Option Addr, ∃ d3 : Nat, v = sv d1 d3 b8 ∧ St B w' (Ass.own 5 (Kd.int .u8) d1 d3 b8 :: os) (Ro.sl (Kd.int .u64) A67 C68 l66 :: rs)) := by
 unfold confidantref1_Put.f at H
 refine calls_of_EW (args := [sv A67 C68 l66]) (c := Cd44) 40 Tryd.func44 (by kernel_rfl) (by kernel_rfl) (by kernel_rfl) ?_
 refine EW.sq (by kernel_rfl) ?_
 refine EW.rg (by kernel_rfl) ?_
 refine EL.quick 1 [0] [(0, sv A67 C68 l66)] (by kernel_rfl) ?_
 refine EL.done (by kernel_rfl) ?_
 refine EQ.code ?_
 refine EW.sq (by kernel_rfl) ?_
 refine EW.rg (by kernel_rfl) ?_
 refine EL.quick 1 [0, 3] [(0, sv A67 C68 l66), (3, sv none 0 ([] : List Int))] (by kernel_rfl) ?_
 refine EL.done (by kernel_rfl) ?_
 refine EQ.code ?_
 refine EW.sq (by kernel_rfl) ?_
 refine EW.sq (by kernel_rfl) ?_
 refine EW.rg (by kernel_rfl) ?_
 refine EL.quick 1 [0, 3, 4] [(0, sv A67 C68 l66), (3, sv none 0 ([] : List Int)), (4, ia 0)] (by kernel_rfl) ?_
 refine EL.done (by kernel_rfl) ?_
 refine EQ.code ?_
 refine EW.bl 0 (by kernel_rfl) ?_
 have hS := St.nilO hS 5 (Kd.int .u8)
 refine EW.lp (fun n a w => ∃ a1 : List Int, ∃ a0 : Int, ∃ a2 : Option Addr, ∃ a3 : Nat, Sat 40 [(0, sv A67 C68 l66), (3, sv a2 a3 a1), (4, ia a0)] a ∧ St B w (Ass.own 5 (Kd.int .u8) a2 a3 a1 :: os) (Ro.sl (Kd.int .u64) A67 C68 l66 :: rs) ∧ confidantref1_Put.l0 K l66 n a1 a0 = some b8) K (by kernel_rfl) ?_ (fun n a w hI => ?_)
 ·refine EQ.keep [0, 3, 4] [(0, sv A67 C68 l66), (3, sv none 0 ([] : List Int)), (4, ia 0)] (by kernel_rfl) ?_
  exact fun a ha => ⟨([] : List Int), 0, none, 0, ha, (hS.re [0] [] rfl (sub_cons 0 rfl (sub_tail (sub_self)))), H⟩
 obtain ⟨a1, a0, a2, a3, ha, hS, H⟩ := hI
 obtain _ | n := n
 ·simp [confidantref1_Put.l0] at H
 rw [confidantref1_Put.l0.eq_2] at H
 refine EW.at ?_ a ha
 clear ha a
 refine EW.sq (by kernel_rfl) ?_
 refine EW.sq (by kernel_rfl) ?_
 refine EW.rg (by kernel_rfl) ?_
 refine EL.quick 4 [0, 3, 4, 10] [(0, sv A67 C68 l66), (3, sv a2 a3 a1), (4, ia a0), (10, .bool (decide (a0 < (l66.length : Int))))] (by kernel_rfl) ?_
 refine EL.done (by kernel_rfl) ?_
 refine EQ.code ?_
 refine EW.cdP (a0 < (l66.length : Int)) (by kernel_rfl) (by kernel_rfl) (fun b1 => ?_) (fun b1 => ?_)
 ·rw [if_pos b1] at H
  refine EW.skip (by kernel_rfl) ?_
  refine EQ.code ?_
  obtain ⟨d0, e0, H⟩ := lt_out H
  refine EW.ct (fun a w => ∃ b0 : List Int, ∃ c8 : List Int, ∃ b9 : Option Addr, ∃ c1 : Nat, ∃ d2 : Option Addr, ∃ d4 : Nat, Sat 40 [(0, sv A67 C68 l66), (3, sv b9 c1 b0), (4, ia a0)] a ∧ St B w (Ass.own 5 (Kd.int .u8) b9 c1 b0 :: Ass.own 5 (Kd.int .u8) d2 d4 c8 :: os) (Ro.sl (Kd.int .u64) A67 C68 l66 :: rs) ∧ d0 b0 c8 = some b8) (by kernel_rfl) ?_ (fun a w hI => ?_)
  ·refine EW.bl 1 (by kernel_rfl) ?_
   refine EW.sq (by kernel_rfl) ?_
   refine EW.rg (by kernel_rfl) ?_
   refine EL.quick 2 [0, 3, 4, 13, 14] [(0, sv A67 C68 l66), (3, sv a2 a3 a1), (4, ia a0), (13, sv A67 C68 l66), (14, ia a0)] (by kernel_rfl) ?_
   obtain ⟨c7, H⟩ := ite_in H
   obtain ⟨a4, rfl⟩ := St.rd_some hS (Rd.ro 0 rfl) c7 b1
   refine EL.of (EO.Y (YO.idx 115 1 a4 l66.length C68 .i64 a0 15 (by kernel_rfl) (by kernel_rfl) (by kernel_rfl) (by kernel_rfl) c7 b1) ?_)
   refine EL.of (EO.Y (YO.loadEl hS (Kd.int .u64) a4 C68 l66 (Rd.ro 0 rfl) 0 (encI .u64) encI_of a0 c7 b1 77 1 0 1 rfl (ic (l66.getD a0.toNat 0)) 16 (by kernel_rfl) (by kernel_rfl) (by kernel_rfl) (by kernel_rfl)) ?_)
   refine EL.quick 2 [0, 3, 4, 18] [(0, sv (some a4) C68 l66), (3, sv a2 a3 a1), (4, ia a0), (18, ig (IntKind.u8.wrap (bA .u64 (l66.getD a0.toNat 0) 127)))] (by kernel_rfl) ?_
   obtain ⟨b2, d6, H⟩ := lt_out H
   refine EL.of (EO.lit hS (Kd.int .u8) 5 33 1 #[(0, ig (IntKind.u8.wrap (bA .u64 (l66.getD a0.toNat 0) 127)))] [ig (IntKind.u8.wrap (bA .u64 (l66.getD a0.toNat 0) 127))] b2 19 (by kernel_rfl) (by kernel_rfl) (by kernel_rfl) (fun _ => (by kernel_rfl)) (by rw [d6]; rfl) (by kernel_rfl) (fun w G hr => (by rw [d6]; exact ⟨[ig (IntKind.u8.wrap (bA .u64 (l66.getD a0.toNat 0) 127))], [], rfl, rfl, rfl⟩)) ?_)
   intro c6 w hS
   refine EL.quick 1 [0, 3, 4, 5] [(0, sv (some a4) C68 l66), (3, sv a2 a3 a1), (4, ia a0), (5, sv (some ⟨c6, 0, none⟩) 1 b2)] (by kernel_rfl) ?_
   refine EL.done (by kernel_rfl) ?_
   refine EQ.code ?_
   obtain ⟨b6, e1, H⟩ := lt_out H
   refine EW.ct (fun a w => ∃ a7 : List Int, ∃ b4 : Option Addr, ∃ b5 : Nat, Sat 40 [(0, sv (some a4) C68 l66), (3, sv a2 a3 a1), (4, ia a0), (5, sv b4 b5 a7)] a ∧ St B w (Ass.own 5 (Kd.int .u8) a2 a3 a1 :: Ass.own 5 (Kd.int .u8) b4 b5 a7 :: os) (Ro.sl (Kd.int .u64) (some a4) C68 l66 :: rs) ∧ b6 a7 = some b8) (by kernel_rfl) ?_ (fun a w hI => ?_)
   ·refine EW.sq (by kernel_rfl) ?_
    refine EW.rg (by kernel_rfl) ?_
    refine EL.quick 2 [0, 3, 4, 5, 20, 21] [(0, sv (some a4) C68 l66), (3, sv a2 a3 a1), (4, ia a0), (5, sv (some ⟨c6, 0, none⟩) 1 b2), (20, sv (some a4) C68 l66), (21, ia a0)] (by kernel_rfl) ?_
    refine EL.of (EO.Y (YO.idx 115 1 a4 l66.length C68 .i64 a0 22 (by kernel_rfl) (by kernel_rfl) (by kernel_rfl) (by kernel_rfl) c7 b1) ?_)
    refine EL.of (EO.Y (YO.loadEl hS (Kd.int .u64) a4 C68 l66 (Rd.ro 0 rfl) 0 (encI .u64) encI_of a0 c7 b1 77 1 0 1 rfl (ic (l66.getD a0.toNat 0)) 23 (by kernel_rfl) (by kernel_rfl) (by kernel_rfl) (by kernel_rfl)) ?_)
    refine EL.quick 2 [0, 3, 4, 5, 6] [(0, sv (some a4) C68 l66), (3, sv a2 a3 a1), (4, ia a0), (5, sv (some ⟨c6, 0, none⟩) 1 b2), (6, ic (sR .u64 (l66.getD a0.toNat 0) 7))] (by kernel_rfl) ?_
    refine EL.done (by kernel_rfl) ?_
    refine EQ.code ?_
    refine EW.bl 2 (by kernel_rfl) ?_
    refine EW.lp (fun n a w => ∃ a6 : List Int, ∃ a5 : Int, ∃ a8 : Option Addr, ∃ a9 : Nat, Sat 40 [(0, sv (some a4) C68 l66), (3, sv a2 a3 a1), (4, ia a0), (5, sv a8 a9 a6), (6, ic a5)] a ∧ St B w (Ass.own 5 (Kd.int .u8) a2 a3 a1 :: Ass.own 5 (Kd.int .u8) a8 a9 a6 :: os) (Ro.sl (Kd.int .u64) (some a4) C68 l66 :: rs) ∧ confidantref1_Put.l1 K b6 n a6 a5 = some b8) K (by kernel_rfl) ?_ (fun n a w hI => ?_)
    ·refine EQ.keep [0, 3, 4, 5, 6] [(0, sv (some a4) C68 l66), (3, sv a2 a3 a1), (4, ia a0), (5, sv (some ⟨c6, 0, none⟩) 1 b2), (6, ic (sR .u64 (l66.getD a0.toNat 0) 7))] (by kernel_rfl) ?_
     exact fun a ha => ⟨b2, sR .u64 (l66.getD a0.toNat 0) 7, (some ⟨c6, 0, none⟩), 1, ha, (hS.re [0, 1] [] rfl (sub_cons 0 rfl (sub_tail (sub_self)))), H⟩
    obtain ⟨a6, a5, a8, a9, ha, hS, H⟩ := hI
    obtain _ | n := n
    ·simp [confidantref1_Put.l1] at H
    rw [confidantref1_Put.l1.eq_2] at H
    refine EW.at ?_ a ha
    clear ha a
    refine EW.sq (by kernel_rfl) ?_
    refine EW.sq (by kernel_rfl) ?_
    refine EW.rg (by kernel_rfl) ?_
    refine EL.quick 2 [0, 3, 4, 5, 6, 26] [(0, sv (some a4) C68 l66), (3, sv a2 a3 a1), (4, ia a0), (5, sv a8 a9 a6), (6, ic a5), (26, .bool (decide (a5 > 0)))] (by kernel_rfl) ?_
    refine EL.done (by kernel_rfl) ?_
    refine EQ.code ?_
    refine EW.cdP (a5 > 0) (by kernel_rfl) (by kernel_rfl) (fun c9 => ?_) (fun c9 => ?_)
    ·rw [if_pos c9] at H
     refine EW.skip (by kernel_rfl) ?_
     refine EQ.code ?_
     refine EW.sq (by kernel_rfl) ?_
     refine EW.bl 3 (by kernel_rfl) ?_
     refine EW.rg (by kernel_rfl) ?_
     refine EL.quick 4 [0, 3, 4, 5, 6, 32] [(0, sv (some a4) C68 l66), (3, sv a2 a3 a1), (4, ia a0), (5, sv a8 a9 a6), (6, ic a5), (32, ig (bO .u8 (IntKind.u8.wrap (bA .u64 a5 127)) 128))] (by kernel_rfl) ?_
     obtain ⟨c3, d7, H⟩ := lt_out H
     refine EL.of (EO.lit hS (Kd.int .u8) 5 33 1 #[(0, ig (bO .u8 (IntKind.u8.wrap (bA .u64 a5 127)) 128))] [ig (bO .u8 (IntKind.u8.wrap (bA .u64 a5 127)) 128)] c3 33 (by kernel_rfl) (by kernel_rfl) (by kernel_rfl) (fun _ => (by kernel_rfl)) (by rw [d7]; rfl) (by kernel_rfl) (fun w G hr => (by rw [d7]; exact ⟨[ig (bO .u8 (IntKind.u8.wrap (bA .u64 a5 127)) 128)], [], rfl, rfl, rfl⟩)) ?_)
     intro d5 w hS
     refine EL.quick 1 [0, 3, 4, 6, 33, 34] [(0, sv (some a4) C68 l66), (3, sv a2 a3 a1), (4, ia a0), (6, ic a5), (33, sv (some ⟨d5, 0, none⟩) 1 c3), (34, sv a8 a9 a6)] (by kernel_rfl) ?_
     obtain ⟨d8, H⟩ := ite_in H
     obtain ⟨b3, e2, H⟩ := lt_out H
     refine EL.of (EO.append hS 33 33 5 1 0 (Kd.int .u8) (some ⟨d5, 0, none⟩) 1 c3 rfl a8 a9 a6 (Rd.own 2 5 rfl) b3 e2 (fun c0 c2 => Ass.own 5 (Kd.int .u8) c0 c2 b3 :: Ass.own 5 (Kd.int .u8) a2 a3 a1 :: Ass.own 5 (Kd.int .u8) a8 a9 a6 :: os) 35 (by kernel_rfl) (by kernel_rfl) (by kernel_rfl) (by kernel_rfl) d8 (fun _ _ => rfl) ?_)
     intro c0 c2 w hS
     refine EL.quick 1 [0, 3, 4, 5, 6] [(0, sv (some a4) C68 l66), (3, sv a2 a3 a1), (4, ia a0), (5, sv c0 c2 b3), (6, ic a5)] (by kernel_rfl) ?_
     refine EL.done (by kernel_rfl) ?_
     refine EQ.pop ?_
     refine EQ.code ?_
     refine EW.rg (by kernel_rfl) ?_
     refine EL.quick 3 [0, 3, 4, 5, 6] [(0, sv (some a4) C68 l66), (3, sv a2 a3 a1), (4, ia a0), (5, sv c0 c2 b3), (6, ic (sR .u64 a5 7))] (by kernel_rfl) ?_
     refine EL.done (by kernel_rfl) ?_
     refine EQ.to ?_
     refine EQ.keep [0, 3, 4, 5, 6] [(0, sv (some a4) C68 l66), (3, sv a2 a3 a1), (4, ia a0), (5, sv c0 c2 b3), (6, ic (sR .u64 a5 7))] (by kernel_rfl) ?_
     exact fun a ha => ⟨n, Nat.lt_succ_self n, b3, sR .u64 a5 7, c0, c2, ha, (hS.re [0, 1] [2] rfl (sub_cons 0 rfl (sub_tail (sub_self)))), H⟩
    rw [if_neg c9] at H
    refine EW.exit (id := 2) (by kernel_rfl) ?_
    refine EQ.exitCode ?_
    refine EQ.exitTo ?_
    refine EQ.exitHere ?_
    refine EQ.to ?_
    refine EQ.keep [0, 3, 4, 5] [(0, sv (some a4) C68 l66), (3, sv a2 a3 a1), (4, ia a0), (5, sv a8 a9 a6)] (by kernel_rfl) ?_
    exact fun a ha => ⟨a6, a8, a9, ha, (hS.re [1, 1] [] rfl (sub_cons 0 rfl (sub_tail (sub_self)))), H⟩
   obtain ⟨a7, b4, b5, ha, hS, H⟩ := hI
   rw [e1] at H
   (try dsimp only at H)
   refine EW.at ?_ a ha
   clear ha a
   refine EW.rg (by kernel_rfl) ?_
   refine EL.quick 2 [0, 4, 36, 37] [(0, sv (some a4) C68 l66), (4, ia a0), (36, sv a2 a3 a1), (37, sv b4 b5 a7)] (by kernel_rfl) ?_
   obtain ⟨d9, H⟩ := ite_in H
   obtain ⟨b7, e3, H⟩ := lt_out H
   refine EL.of (EO.append hS 33 33 5 1 0 (Kd.int .u8) a2 a3 a1 rfl b4 b5 a7 (Rd.own 1 5 rfl) b7 e3 (fun c4 c5 => Ass.own 5 (Kd.int .u8) c4 c5 b7 :: Ass.own 5 (Kd.int .u8) b4 b5 a7 :: os) 38 (by kernel_rfl) (by kernel_rfl) (by kernel_rfl) (by kernel_rfl) d9 (fun _ _ => rfl) ?_)
   intro c4 c5 w hS
   refine EL.quick 1 [0, 3, 4] [(0, sv (some a4) C68 l66), (3, sv c4 c5 b7), (4, ia a0)] (by kernel_rfl) ?_
   refine EL.done (by kernel_rfl) ?_
   refine EQ.pop ?_
   refine EQ.to ?_
   refine EQ.keep [0, 3, 4] [(0, sv (some a4) C68 l66), (3, sv c4 c5 b7), (4, ia a0)] (by kernel_rfl) ?_
   exact fun a ha => ⟨b7, a7, c4, c5, b4, b5, ha, (hS.re [1, 1] [] rfl (sub_cons 0 rfl (sub_tail (sub_self)))), H⟩
  obtain ⟨b0, c8, b9, c1, d2, d4, ha, hS, H⟩ := hI
  rw [e0] at H
  (try dsimp only at H)
  refine EW.at ?_ a ha
  clear ha a
  refine EW.rg (by kernel_rfl) ?_
  refine EL.quick 3 [0, 3, 4] [(0, sv A67 C68 l66), (3, sv b9 c1 b0), (4, ia (IntKind.i64.wrap (a0 + 1)))] (by kernel_rfl) ?_
  refine EL.done (by kernel_rfl) ?_
  refine EQ.to ?_
  refine EQ.keep [0, 3, 4] [(0, sv A67 C68 l66), (3, sv b9 c1 b0), (4, ia (IntKind.i64.wrap (a0 + 1)))] (by kernel_rfl) ?_
  exact fun a ha => ⟨n, Nat.lt_succ_self n, b0, IntKind.i64.wrap (a0 + 1), b9, c1, ha, (hS.re [0] [1] rfl (sub_cons 0 rfl (sub_tail (sub_self)))), H⟩
 rw [if_neg b1] at H
 refine EW.exit (id := 0) (by kernel_rfl) ?_
 refine EQ.exitCode ?_
 refine EQ.exitTo ?_
 refine EQ.exitHere ?_
 refine EQ.code ?_
 refine EW.sq (by kernel_rfl) ?_
 refine EW.rg (by kernel_rfl) ?_
 refine EL.quick 2 [2] [(2, sv a2 a3 a1)] (by kernel_rfl) ?_
 refine EL.done (by kernel_rfl) ?_
 refine EQ.code ?_
 refine EW.ret (by kernel_rfl) ?_
 obtain rfl := Option.some.inj H
 exact EQ.leave (sv a2 a3 a1) (by kernel_rfl) ⟨_, rfl, a2, a3, rfl, (hS.re [0] [] rfl (sub_self))⟩

/-! ### confidant/confidantref21.EventRight: function 24 -/
def confidantref21_EventRight.f (K : Nat) (a0 : S28) : Option Bool := if a0.f0 ≥ 0 then (if a0.f0 ≤ 65536 then (if a0.f1 ≥ 0 then (if a0.f1 < 16 then (if a0.f2 ≥ 1 then (if a0.f2 ≤ 11 then (if a0.f3 ≥ 0 then (if a0.f3 < 8 then (some (decide (a0.f4 ≥ 0))) else (some false)) else (some false)) else (some false)) else (some false)) else (some false)) else (some false)) else (some false)) else (some false)
set_option maxRecDepth 100000 in
theorem confidantref21_EventRight.calls {K : Nat} {a0 : S28} {b0 : Bool} {B w : World} {os : List Ass} {rs : List Ro} (H : confidantref21_EventRight.f K a0 = some b0) (hS : St B w (os) (rs)) :
  Calls Tryd.prog 24 [ag (encS28 a0)].toArray w (fun en w' => ∃ v, en = .returned v ∧ v = .bool (b0) ∧ St B w' (os) (rs)) := by
 unfold confidantref21_EventRight.f at H
 refine calls_of_EW (args := [ag (encS28 a0)]) (c := Cd24) 46 Tryd.func24 (by kernel_rfl) (by kernel_rfl) (by kernel_rfl) ?_
 refine EW.sq (by kernel_rfl) ?_
 refine EW.rg (by kernel_rfl) ?_
 refine EL.of (EO.box hS 28 (ag (encS28 a0)) (encS28 a0) 1 (by kernel_rfl) (by kernel_rfl) (by kernel_rfl) (by first | rfl | kernel_rfl) ?_)
 intro a1 w hS
 refine EL.quick 1 [1] [(1, pt a1 0)] (by kernel_rfl) ?_
 refine EL.done (by kernel_rfl) ?_
 refine EQ.code ?_
 refine EW.sq (by kernel_rfl) ?_
 refine EW.rg (by kernel_rfl) ?_
 refine EL.quick 1 [1, 3] [(1, pt a1 0), (3, pt a1 0)] (by kernel_rfl) ?_
 refine EL.of (EO.Y (YO.loadBox hS 0 rfl 3 0 1 (ia a0.f0) 4 (by kernel_rfl) (by kernel_rfl) (by kernel_rfl) (by kernel_rfl)) ?_)
 refine EL.quick 2 [1, 6] [(1, pt a1 0), (6, .bool (decide (a0.f0 ≥ 0)))] (by kernel_rfl) ?_
 by_cases a2 : a0.f0 ≥ 0
 ·rw [if_pos a2] at H
  refine EL.keep [1, 6] [(1, pt a1 0), (6, .bool (decide (a0.f0 ≥ 0)))] (by kernel_rfl) ?_
  refine EL.as' [(1, pt a1 0), (6, .bool (true))] (by simp only [encS28, dec_t a2, Bool.not_true, Bool.not_false]) ?_
  refine EL.quick 1 [1, 6, 7] [(1, pt a1 0), (6, .bool (true)), (7, pt a1 0)] (by kernel_rfl) ?_
  refine EL.of (EO.Y (YO.loadBox hS 0 rfl 3 0 1 (ia a0.f0) 8 (by kernel_rfl) (by kernel_rfl) (by kernel_rfl) (by kernel_rfl)) ?_)
  refine EL.quick 3 [1, 11] [(1, pt a1 0), (11, .bool (decide (a0.f0 ≤ 65536)))] (by kernel_rfl) ?_
  by_cases a3 : a0.f0 ≤ 65536
  ·rw [if_pos a3] at H
   refine EL.keep [1, 11] [(1, pt a1 0), (11, .bool (decide (a0.f0 ≤ 65536)))] (by kernel_rfl) ?_
   refine EL.as' [(1, pt a1 0), (11, .bool (true))] (by simp only [encS28, dec_t a3, Bool.not_true, Bool.not_false]) ?_
   refine EL.quick 1 [1, 11, 12] [(1, pt a1 0), (11, .bool (true)), (12, pt a1 1)] (by kernel_rfl) ?_
   refine EL.of (EO.Y (YO.loadBox hS 0 rfl 3 1 1 (ia a0.f1) 13 (by kernel_rfl) (by kernel_rfl) (by kernel_rfl) (by kernel_rfl)) ?_)
   refine EL.quick 3 [1, 16] [(1, pt a1 0), (16, .bool (decide (a0.f1 ≥ 0)))] (by kernel_rfl) ?_
   by_cases a4 : a0.f1 ≥ 0
   ·rw [if_pos a4] at H
    refine EL.keep [1, 16] [(1, pt a1 0), (16, .bool (decide (a0.f1 ≥ 0)))] (by kernel_rfl) ?_
    refine EL.as' [(1, pt a1 0), (16, .bool (true))] (by simp only [encS28, dec_t a4, Bool.not_true, Bool.not_false]) ?_
    refine EL.quick 1 [1, 16, 17] [(1, pt a1 0), (16, .bool (true)), (17, pt a1 1)] (by kernel_rfl) ?_
    refine EL.of (EO.Y (YO.loadBox hS 0 rfl 3 1 1 (ia a0.f1) 18 (by kernel_rfl) (by kernel_rfl) (by kernel_rfl) (by kernel_rfl)) ?_)
    refine EL.quick 3 [1, 21] [(1, pt a1 0), (21, .bool (decide (a0.f1 < 16)))] (by kernel_rfl) ?_
    by_cases a5 : a0.f1 < 16
    ·rw [if_pos a5] at H
     refine EL.keep [1, 21] [(1, pt a1 0), (21, .bool (decide (a0.f1 < 16)))] (by kernel_rfl) ?_
     refine EL.as' [(1, pt a1 0), (21, .bool (true))] (by simp only [encS28, dec_t a5, Bool.not_true, Bool.not_false]) ?_
     refine EL.quick 1 [1, 21, 22] [(1, pt a1 0), (21, .bool (true)), (22, pt a1 2)] (by kernel_rfl) ?_
     refine EL.of (EO.Y (YO.loadBox hS 0 rfl 3 2 1 (ia a0.f2) 23 (by kernel_rfl) (by kernel_rfl) (by kernel_rfl) (by kernel_rfl)) ?_)
     refine EL.quick 3 [1, 26] [(1, pt a1 0), (26, .bool (decide (a0.f2 ≥ 1)))] (by kernel_rfl) ?_
     by_cases a6 : a0.f2 ≥ 1
     ·rw [if_pos a6] at H
      refine EL.keep [1, 26] [(1, pt a1 0), (26, .bool (decide (a0.f2 ≥ 1)))] (by kernel_rfl) ?_
      refine EL.as' [(1, pt a1 0), (26, .bool (true))] (by simp only [encS28, dec_t a6, Bool.not_true, Bool.not_false]) ?_
      refine EL.quick 1 [1, 26, 27] [(1, pt a1 0), (26, .bool (true)), (27, pt a1 2)] (by kernel_rfl) ?_
      refine EL.of (EO.Y (YO.loadBox hS 0 rfl 3 2 1 (ia a0.f2) 28 (by kernel_rfl) (by kernel_rfl) (by kernel_rfl) (by kernel_rfl)) ?_)
      refine EL.quick 3 [1, 31] [(1, pt a1 0), (31, .bool (decide (a0.f2 ≤ 11)))] (by kernel_rfl) ?_
      by_cases a7 : a0.f2 ≤ 11
      ·rw [if_pos a7] at H
       refine EL.keep [1, 31] [(1, pt a1 0), (31, .bool (decide (a0.f2 ≤ 11)))] (by kernel_rfl) ?_
       refine EL.as' [(1, pt a1 0), (31, .bool (true))] (by simp only [encS28, dec_t a7, Bool.not_true, Bool.not_false]) ?_
       refine EL.quick 1 [1, 31, 32] [(1, pt a1 0), (31, .bool (true)), (32, pt a1 3)] (by kernel_rfl) ?_
       refine EL.of (EO.Y (YO.loadBox hS 0 rfl 3 3 1 (ia a0.f3) 33 (by kernel_rfl) (by kernel_rfl) (by kernel_rfl) (by kernel_rfl)) ?_)
       refine EL.quick 3 [1, 36] [(1, pt a1 0), (36, .bool (decide (a0.f3 ≥ 0)))] (by kernel_rfl) ?_
       by_cases a8 : a0.f3 ≥ 0
       ·rw [if_pos a8] at H
        refine EL.keep [1, 36] [(1, pt a1 0), (36, .bool (decide (a0.f3 ≥ 0)))] (by kernel_rfl) ?_
        refine EL.as' [(1, pt a1 0), (36, .bool (true))] (by simp only [encS28, dec_t a8, Bool.not_true, Bool.not_false]) ?_
        refine EL.quick 1 [1, 36, 37] [(1, pt a1 0), (36, .bool (true)), (37, pt a1 3)] (by kernel_rfl) ?_
        refine EL.of (EO.Y (YO.loadBox hS 0 rfl 3 3 1 (ia a0.f3) 38 (by kernel_rfl) (by kernel_rfl) (by kernel_rfl) (by kernel_rfl)) ?_)
        refine EL.quick 3 [1, 41] [(1, pt a1 0), (41, .bool (decide (a0.f3 < 8)))] (by kernel_rfl) ?_
        by_cases a9 : a0.f3 < 8
        ·rw [if_pos a9] at H
         refine EL.keep [1, 41] [(1, pt a1 0), (41, .bool (decide (a0.f3 < 8)))] (by kernel_rfl) ?_
         refine EL.as' [(1, pt a1 0), (41, .bool (true))] (by simp only [encS28, dec_t a9, Bool.not_true, Bool.not_false]) ?_
         refine EL.quick 1 [41, 42] [(41, .bool (true)), (42, pt a1 4)] (by kernel_rfl) ?_
         refine EL.of (EO.Y (YO.loadBox hS 0 rfl 21 4 1 (ib a0.f4) 43 (by kernel_rfl) (by kernel_rfl) (by kernel_rfl) (by kernel_rfl)) ?_)
         refine EL.quick 3 [2] [(2, .bool (decide (a0.f4 ≥ 0)))] (by kernel_rfl) ?_
         refine EL.done (by kernel_rfl) ?_
         refine EQ.code ?_
         refine EW.ret (by kernel_rfl) ?_
         obtain rfl := Option.some.inj H
         exact EQ.leave (.bool (decide (a0.f4 ≥ 0))) (by kernel_rfl) ⟨_, rfl, rfl, (hS.re [] [0] rfl (sub_self))⟩
        rw [if_neg a9] at H
        refine EL.keep [1, 41] [(1, pt a1 0), (41, .bool (decide (a0.f3 < 8)))] (by kernel_rfl) ?_
        refine EL.as' [(1, pt a1 0), (41, .bool (false))] (by simp only [encS28, dec_f a9, Bool.not_true, Bool.not_false]) ?_
        refine EL.quick 5 [2] [(2, .bool (false))] (by kernel_rfl) ?_
        refine EL.done (by kernel_rfl) ?_
        refine EQ.code ?_
        refine EW.ret (by kernel_rfl) ?_
        obtain rfl := Option.some.inj H
        exact EQ.leave (.bool (false)) (by kernel_rfl) ⟨_, rfl, rfl, (hS.re [] [0] rfl (sub_self))⟩
       rw [if_neg a8] at H
       refine EL.keep [1, 36] [(1, pt a1 0), (36, .bool (decide (a0.f3 ≥ 0)))] (by kernel_rfl) ?_
       refine EL.as' [(1, pt a1 0), (36, .bool (false))] (by simp only [encS28, dec_f a8, Bool.not_true, Bool.not_false]) ?_
       refine EL.quick 10 [2] [(2, .bool (false))] (by kernel_rfl) ?_
       refine EL.done (by kernel_rfl) ?_
       refine EQ.code ?_
       refine EW.ret (by kernel_rfl) ?_
       obtain rfl := Option.some.inj H
       exact EQ.leave (.bool (false)) (by kernel_rfl) ⟨_, rfl, rfl, (hS.re [] [0] rfl (sub_self))⟩
      rw [if_neg a7] at H
      refine EL.keep [1, 31] [(1, pt a1 0), (31, .bool (decide (a0.f2 ≤ 11)))] (by kernel_rfl) ?_
      refine EL.as' [(1, pt a1 0), (31, .bool (false))] (by simp only [encS28, dec_f a7, Bool.not_true, Bool.not_false]) ?_
      refine EL.quick 15 [2] [(2, .bool (false))] (by kernel_rfl) ?_
      refine EL.done (by kernel_rfl) ?_
      refine EQ.code ?_
      refine EW.ret (by kernel_rfl) ?_
      obtain rfl := Option.some.inj H
      exact EQ.leave (.bool (false)) (by kernel_rfl) ⟨_, rfl, rfl, (hS.re [] [0] rfl (sub_self))⟩
     rw [if_neg a6] at H
     refine EL.keep [1, 26] [(1, pt a1 0), (26, .bool (decide (a0.f2 ≥ 1)))] (by kernel_rfl) ?_
     refine EL.as' [(1, pt a1 0), (26, .bool (false))] (by simp only [encS28, dec_f a6, Bool.not_true, Bool.not_false]) ?_
     refine EL.quick 20 [2] [(2, .bool (false))] (by kernel_rfl) ?_
     refine EL.done (by kernel_rfl) ?_
     refine EQ.code ?_
     refine EW.ret (by kernel_rfl) ?_
     obtain rfl := Option.some.inj H
     exact EQ.leave (.bool (false)) (by kernel_rfl) ⟨_, rfl, rfl, (hS.re [] [0] rfl (sub_self))⟩
    rw [if_neg a5] at H
    refine EL.keep [1, 21] [(1, pt a1 0), (21, .bool (decide (a0.f1 < 16)))] (by kernel_rfl) ?_
    refine EL.as' [(1, pt a1 0), (21, .bool (false))] (by simp only [encS28, dec_f a5, Bool.not_true, Bool.not_false]) ?_
    refine EL.quick 25 [2] [(2, .bool (false))] (by kernel_rfl) ?_
    refine EL.done (by kernel_rfl) ?_
    refine EQ.code ?_
    refine EW.ret (by kernel_rfl) ?_
    obtain rfl := Option.some.inj H
    exact EQ.leave (.bool (false)) (by kernel_rfl) ⟨_, rfl, rfl, (hS.re [] [0] rfl (sub_self))⟩
   rw [if_neg a4] at H
   refine EL.keep [1, 16] [(1, pt a1 0), (16, .bool (decide (a0.f1 ≥ 0)))] (by kernel_rfl) ?_
   refine EL.as' [(1, pt a1 0), (16, .bool (false))] (by simp only [encS28, dec_f a4, Bool.not_true, Bool.not_false]) ?_
   refine EL.quick 30 [2] [(2, .bool (false))] (by kernel_rfl) ?_
   refine EL.done (by kernel_rfl) ?_
   refine EQ.code ?_
   refine EW.ret (by kernel_rfl) ?_
   obtain rfl := Option.some.inj H
   exact EQ.leave (.bool (false)) (by kernel_rfl) ⟨_, rfl, rfl, (hS.re [] [0] rfl (sub_self))⟩
  rw [if_neg a3] at H
  refine EL.keep [1, 11] [(1, pt a1 0), (11, .bool (decide (a0.f0 ≤ 65536)))] (by kernel_rfl) ?_
  refine EL.as' [(1, pt a1 0), (11, .bool (false))] (by simp only [encS28, dec_f a3, Bool.not_true, Bool.not_false]) ?_
  refine EL.quick 35 [2] [(2, .bool (false))] (by kernel_rfl) ?_
  refine EL.done (by kernel_rfl) ?_
  refine EQ.code ?_
  refine EW.ret (by kernel_rfl) ?_
  obtain rfl := Option.some.inj H
  exact EQ.leave (.bool (false)) (by kernel_rfl) ⟨_, rfl, rfl, (hS.re [] [0] rfl (sub_self))⟩
 rw [if_neg a2] at H
 refine EL.keep [1, 6] [(1, pt a1 0), (6, .bool (decide (a0.f0 ≥ 0)))] (by kernel_rfl) ?_
 refine EL.as' [(1, pt a1 0), (6, .bool (false))] (by simp only [encS28, dec_f a2, Bool.not_true, Bool.not_false]) ?_
 refine EL.quick 40 [2] [(2, .bool (false))] (by kernel_rfl) ?_
 refine EL.done (by kernel_rfl) ?_
 refine EQ.code ?_
 refine EW.ret (by kernel_rfl) ?_
 obtain rfl := Option.some.inj H
 exact EQ.leave (.bool (false)) (by kernel_rfl) ⟨_, rfl, rfl, (hS.re [] [0] rfl (sub_self))⟩

/-! ### confidant/confidantref1.Int: function 45 -/
def confidantref1_Int.f (K : Nat) (a0 : Int) : Option Int := some (IntKind.u64.wrap (IntKind.u32.wrap a0))
set_option maxRecDepth 100000 in
theorem confidantref1_Int.calls {K : Nat} {a0 : Int} {a1 : Int} {B w : World} {os : List Ass} {rs : List Ro} (H : confidantref1_Int.f K a0 = some a1) (hS : St B w (os) (rs)) :
  Calls Tryd.prog 45 [ib a0].toArray w (fun en w' => ∃ v, en = .returned v ∧ v = ic a1 ∧ St B w' (os) (rs)) := by
 unfold confidantref1_Int.f at H
 refine calls_of_EW (args := [ib a0]) (c := Cd45) 6 Tryd.func45 (by kernel_rfl) (by kernel_rfl) (by kernel_rfl) ?_
 refine EW.sq (by kernel_rfl) ?_
 refine EW.rg (by kernel_rfl) ?_
 refine EL.quick 1 [0] [(0, ib a0)] (by kernel_rfl) ?_
 refine EL.done (by kernel_rfl) ?_
 refine EQ.code ?_
 refine EW.sq (by kernel_rfl) ?_
 refine EW.rg (by kernel_rfl) ?_
 refine EL.quick 4 [2] [(2, ic (IntKind.u64.wrap (IntKind.u32.wrap a0)))] (by kernel_rfl) ?_
 refine EL.done (by kernel_rfl) ?_
 refine EQ.code ?_
 refine EW.ret (by kernel_rfl) ?_
 obtain rfl := Option.some.inj H
 exact EQ.leave (ic (IntKind.u64.wrap (IntKind.u32.wrap a0))) (by kernel_rfl) ⟨_, rfl, rfl, (hS.re [] [] rfl (sub_self))⟩

/-! ### confidant/confidantref21.EventsPut: function 16 -/
def confidantref21_EventsPut.l0 (K : Nat) (l61 : List S28) : Nat → (List Int) → Int → Option (List Int)
 | 0, _, _ => none
 | n + 1, a2, a0 => if a0 < (l61.length : Int) then (if 0 ≤ a0 then (b1 (confidantref21_EventRight.f K (l61.getD a0.toNat zS28)) fun (b7 : Bool) => (if b7 = true then (b1 (confidantref1_Int.f K ((l61.getD a0.toNat zS28).f5)) fun (a7 : Int) => (b1 (confidantref1_Int.f K ((l61.getD a0.toNat zS28).f6)) fun (a6 : Int) => (lt ([IntKind.u64.wrap ((l61.getD a0.toNat zS28).f0), IntKind.u64.wrap ((l61.getD a0.toNat zS28).f1), IntKind.u64.wrap ((l61.getD a0.toNat zS28).f2), IntKind.u64.wrap ((l61.getD a0.toNat zS28).f3), IntKind.u64.wrap ((l61.getD a0.toNat zS28).f4), a7, a6] : List Int) fun b6 => (b1 (confidantref1_Put.f K b6) fun (b8 : List Int) => (if (a2.length + b8.length) * 1 ≤ 140737488355328 then (lt (a2 ++ b8) fun a9 => (confidantref21_EventsPut.l0 K l61 n a9 (IntKind.i64.wrap (a0 + 1)))) else none))))) else (some ([] : List Int)))) else none) else (some a2)
def confidantref21_EventsPut.f (K : Nat) (l61 : List S28) : Option (List Int) := lt ([IntKind.u64.wrap (l61.length : Int)] : List Int) fun a8 => (b1 (confidantref1_Put.f K a8) fun (b5 : List Int) => (confidantref21_EventsPut.l0 K l61 K b5 0))
set_option maxRecDepth 100000 in
theorem confidantref21_EventsPut.calls {K : Nat} {l61 : List S28} {A62 : Option Addr} {C63 : Nat} {c1 : List Int} {B w : World} {os : List Ass} {rs : List Ro} (H : confidantref21_EventsPut.f K l61 = some c1) (hS : St B w (os) (Ro.sl kS28 A62 C63 l61 :: rs)) :
  Calls Tryd.prog 16 [sv A62 C63 l61].toArray w (fun en w' => ∃ v, en = .returned v ∧ ∃ c4 : Option Addr, ∃ c6 : Nat, v = sv c4 c6 c1 ∧ St B w' (Ass.own 5 (Kd.int .u8) c4 c6 c1 :: os) (Ro.sl kS28 A62 C63 l61 :: rs)) := by
 unfold confidantref21_EventsPut.f at H
 refine calls_of_EW (args := [sv A62 C63 l61]) (c := Cd16) 50 Tryd.func16 (by kernel_rfl) (by kernel_rfl) (by kernel_rfl) ?_
 refine EW.sq (by kernel_rfl) ?_
 refine EW.rg (by kernel_rfl) ?_
 refine EL.quick 1 [0] [(0, sv A62 C63 l61)] (by kernel_rfl) ?_
 refine EL.done (by kernel_rfl) ?_
 refine EQ.code ?_
 refine EW.sq (by kernel_rfl) ?_
 refine EW.rg (by kernel_rfl) ?_
 refine EL.quick 3 [0, 8] [(0, sv A62 C63 l61), (8, ic (IntKind.u64.wrap (l61.length : Int)))] (by kernel_rfl) ?_
 obtain ⟨a8, c9, H⟩ := lt_out H
 refine EL.of (EO.lit hS (Kd.int .u64) 77 115 1 #[(0, ic (IntKind.u64.wrap (l61.length : Int)))] [ic (IntKind.u64.wrap (l61.length : Int))] a8 9 (by kernel_rfl) (by kernel_rfl) (by kernel_rfl) (fun _ => (by kernel_rfl)) (by rw [c9]; rfl) (by kernel_rfl) (fun w G hr => (by rw [c9]; exact ⟨[ic (IntKind.u64.wrap (l61.length : Int))], [], rfl, rfl, rfl⟩)) ?_)
 intro b3 w hS
 have hS := St.fr hS 0 rfl
 have hS : St B _ (os) (Ro.sl (Kd.int .u64) (some ⟨b3, 0, none⟩) 1 a8 :: Ro.sl kS28 A62 C63 l61 :: rs) := hS.re [] [] rfl (sub_cons 0 rfl (sub_tail (sub_self)))
 obtain ⟨b5, d2, H⟩ := b1_out H
 have hq := confidantref1_Put.calls d2 hS
 refine EL.of (EO.callD 44 [sv (some ⟨b3, 0, none⟩) 1 a8] _ 10 (by kernel_rfl) (by kernel_rfl) (by kernel_rfl) hq ?_)
 rintro v w ⟨b9, c0, rfl, hS⟩
 refine EL.quick 1 [0, 3] [(0, sv A62 C63 l61), (3, sv b9 c0 b5)] (by kernel_rfl) ?_
 refine EL.done (by kernel_rfl) ?_
 refine EQ.code ?_
 refine EW.sq (by kernel_rfl) ?_
 refine EW.sq (by kernel_rfl) ?_
 refine EW.rg (by kernel_rfl) ?_
 refine EL.quick 1 [0, 3, 4] [(0, sv A62 C63 l61), (3, sv b9 c0 b5), (4, ia 0)] (by kernel_rfl) ?_
 refine EL.done (by kernel_rfl) ?_
 refine EQ.code ?_
 refine EW.bl 0 (by kernel_rfl) ?_
 refine EW.lp (fun n a w => ∃ a2 : List Int, ∃ a0 : Int, ∃ a3 : Option Addr, ∃ a4 : Nat, Sat 50 [(0, sv A62 C63 l61), (3, sv a3 a4 a2), (4, ia a0)] a ∧ St B w (Ass.own 5 (Kd.int .u8) a3 a4 a2 :: os) (Ro.sl (Kd.int .u64) (some ⟨b3, 0, none⟩) 1 a8 :: Ro.sl kS28 A62 C63 l61 :: rs) ∧ confidantref21_EventsPut.l0 K l61 n a2 a0 = some c1) K (by kernel_rfl) ?_ (fun n a w hI => ?_)
 ·refine EQ.keep [0, 3, 4] [(0, sv A62 C63 l61), (3, sv b9 c0 b5), (4, ia 0)] (by kernel_rfl) ?_
  exact fun a ha => ⟨b5, 0, b9, c0, ha, (hS.re [0] [] rfl (sub_cons 0 rfl (sub_cons 1 rfl (sub_tail (sub_tail (sub_self)))))), H⟩
 obtain ⟨a2, a0, a3, a4, ha, hS, H⟩ := hI
 obtain _ | n := n
 ·simp [confidantref21_EventsPut.l0] at H
 rw [confidantref21_EventsPut.l0.eq_2] at H
 refine EW.at ?_ a ha
 clear ha a
 refine EW.sq (by kernel_rfl) ?_
 refine EW.sq (by kernel_rfl) ?_
 refine EW.rg (by kernel_rfl) ?_
 refine EL.quick 4 [0, 3, 4, 14] [(0, sv A62 C63 l61), (3, sv a3 a4 a2), (4, ia a0), (14, .bool (decide (a0 < (l61.length : Int))))] (by kernel_rfl) ?_
 refine EL.done (by kernel_rfl) ?_
 refine EQ.code ?_
 refine EW.cdP (a0 < (l61.length : Int)) (by kernel_rfl) (by kernel_rfl) (fun b4 => ?_) (fun b4 => ?_)
 ·rw [if_pos b4] at H
  refine EW.skip (by kernel_rfl) ?_
  refine EQ.code ?_
  refine EW.sq (by kernel_rfl) ?_
  refine EW.bl 1 (by kernel_rfl) ?_
  refine EW.sq (by kernel_rfl) ?_
  refine EW.rg (by kernel_rfl) ?_
  refine EL.quick 2 [0, 3, 4, 17, 18] [(0, sv A62 C63 l61), (3, sv a3 a4 a2), (4, ia a0), (17, sv A62 C63 l61), (18, ia a0)] (by kernel_rfl) ?_
  obtain ⟨c2, H⟩ := ite_in H
  obtain ⟨a5, rfl⟩ := St.rd_some hS (Rd.ro 1 rfl) c2 b4
  refine EL.of (EO.Y (YO.idx 22 7 a5 l61.length C63 .i64 a0 19 (by kernel_rfl) (by kernel_rfl) (by kernel_rfl) (by kernel_rfl) c2 b4) ?_)
  refine EL.of (EO.Y (YO.loadEl hS kS28 a5 C63 l61 (Rd.ro 1 rfl) zS28 encS28 encS28_of a0 c2 b4 28 7 0 7 rfl (ag (encS28 (l61.getD a0.toNat zS28))) 20 (by kernel_rfl) (by kernel_rfl) (by kernel_rfl) (by kernel_rfl)) ?_)
  refine EL.of (EO.alloc hS 28 (ag (encS28 zS28)) (encS28 zS28) 5 (by kernel_rfl) (by kernel_rfl) (by kernel_rfl) (by kernel_rfl) (by first | rfl | kernel_rfl) ?_)
  intro a1 w hS
  refine EL.of (EO.storeBox (os' := Ass.box 28 a1 (encS28 (l61.getD a0.toNat zS28)) :: Ass.own 5 (Kd.int .u8) a3 a4 a2 :: os) hS 0 rfl 28 0 (ag (encS28 (l61.getD a0.toNat zS28))) (encS28 (l61.getD a0.toNat zS28)) (by kernel_rfl) (by kernel_rfl) (by kernel_rfl) (by kernel_rfl) (by kernel_rfl) (by kernel_rfl) rfl rfl ?_)
  intro w hS
  refine EL.done (by kernel_rfl) ?_
  refine EQ.code ?_
  refine EW.sq (by kernel_rfl) ?_
  refine EW.sq (by kernel_rfl) ?_
  refine EW.rg (by kernel_rfl) ?_
  refine EL.of (EO.Y (YO.loadBox hS 0 rfl 28 0 7 (ag (encS28 (l61.getD a0.toNat zS28))) 21 (by kernel_rfl) (by kernel_rfl) (by kernel_rfl) (by kernel_rfl)) ?_)
  obtain ⟨b7, d3, H⟩ := b1_out H
  have hq := confidantref21_EventRight.calls d3 hS
  refine EL.of (EO.callD 24 [ag (encS28 (l61.getD a0.toNat zS28))] _ 22 (by kernel_rfl) (by kernel_rfl) (by kernel_rfl) hq ?_)
  rintro v w ⟨rfl, hS⟩
  refine EL.quick 1 [0, 3, 4, 5, 23] [(0, sv (some a5) C63 l61), (3, sv a3 a4 a2), (4, ia a0), (5, pt a1 0), (23, .bool (!(b7)))] (by kernel_rfl) ?_
  refine EL.done (by kernel_rfl) ?_
  refine EQ.code ?_
  refine EW.cdQ (b := !(b7)) (b7 = true) (false) (by kernel_rfl) (by kernel_rfl) ⟨fun h => (by rw [h] <;> rfl), fun h => (by rw [Bool.eq_false_iff.2 h] <;> rfl)⟩ (fun c3 => ?_) (fun c3 => ?_)
  ·rw [if_pos c3] at H
   refine EW.skip (by kernel_rfl) ?_
   refine EQ.code ?_
   obtain ⟨a7, d4, H⟩ := b1_out H
   obtain ⟨a6, d5, H⟩ := b1_out H
   obtain ⟨b6, d0, H⟩ := lt_out H
   obtain ⟨b8, d6, H⟩ := b1_out H
   obtain ⟨d1, H⟩ := ite_in H
   obtain ⟨a9, d7, H⟩ := lt_out H
   have hS := hS.drew
   refine EW.dr (B := B) [Ass.box 28 a1 (encS28 (l61.getD a0.toNat zS28))] [Ro.sl (Kd.int .u64) (some ⟨b3, 0, none⟩) 1 a8, Ro.sl kS28 (some a5) C63 l61] (by kernel_rfl) (by kernel_rfl) ?_
   have hN : Region.noSelect Cd16.r.r.l.r.l.l.r.l.l.r.r.ops = true := (by kernel_rfl)
   have hF : freeAll Cd16.r.r.l.r.l.l.r.l.l.r.r.ops = true := (by kernel_rfl)
   have hC : Core B [Ass.box 28 a1 (encS28 (l61.getD a0.toNat zS28))] [Ro.sl (Kd.int .u64) (some ⟨b3, 0, none⟩) 1 a8, Ro.sl kS28 (some a5) C63 l61] _ := ⟨_, _, hS⟩
   refine ED.quick hN hF hC [0, 1, 4, 7, 10, 13, 16, 19] [0, 4, 24, 25, 28, 31, 34, 37, 40, 43] 18 [(0, sv (some a5) C63 l61), (4, ia a0), (24, sv a3 a4 a2), (25, pt a1 0), (28, pt a1 1), (31, pt a1 2), (34, pt a1 3), (37, pt a1 4), (40, pt a1 5), (43, pt a1 6)] (bm 26 599187) (by kernel_rfl) (by kernel_rfl) ?_
   refine ED.Y hN hF hC 2 17 (bm 26 599191) (by kernel_rfl) (by kernel_rfl) rfl (fun _ _ _ hS => YO.loadBox hS 0 rfl 3 0 1 (ia ((l61.getD a0.toNat zS28).f0)) 26 (by kernel_rfl) (by kernel_rfl) (by kernel_rfl) (by kernel_rfl)) ?_
   refine ED.quick hN hF hC [3] [0, 4, 24, 27, 28, 31, 34, 37, 40, 43] 16 [(0, sv (some a5) C63 l61), (4, ia a0), (24, sv a3 a4 a2), (27, ic (IntKind.u64.wrap ((l61.getD a0.toNat zS28).f0))), (28, pt a1 1), (31, pt a1 2), (34, pt a1 3), (37, pt a1 4), (40, pt a1 5), (43, pt a1 6)] (bm 26 599199) (by kernel_rfl) (by kernel_rfl) ?_
   refine ED.Y hN hF hC 5 15 (bm 26 599231) (by kernel_rfl) (by kernel_rfl) rfl (fun _ _ _ hS => YO.loadBox hS 0 rfl 3 1 1 (ia ((l61.getD a0.toNat zS28).f1)) 29 (by kernel_rfl) (by kernel_rfl) (by kernel_rfl) (by kernel_rfl)) ?_
   refine ED.quick hN hF hC [6] [0, 4, 24, 27, 30, 31, 34, 37, 40, 43] 14 [(0, sv (some a5) C63 l61), (4, ia a0), (24, sv a3 a4 a2), (27, ic (IntKind.u64.wrap ((l61.getD a0.toNat zS28).f0))), (30, ic (IntKind.u64.wrap ((l61.getD a0.toNat zS28).f1))), (31, pt a1 2), (34, pt a1 3), (37, pt a1 4), (40, pt a1 5), (43, pt a1 6)] (bm 26 599295) (by kernel_rfl) (by kernel_rfl) ?_
   refine ED.Y hN hF hC 8 13 (bm 26 599551) (by kernel_rfl) (by kernel_rfl) rfl (fun _ _ _ hS => YO.loadBox hS 0 rfl 3 2 1 (ia ((l61.getD a0.toNat zS28).f2)) 32 (by kernel_rfl) (by kernel_rfl) (by kernel_rfl) (by kernel_rfl)) ?_
   refine ED.quick hN hF hC [9] [0, 4, 24, 27, 30, 33, 34, 37, 40, 43] 12 [(0, sv (some a5) C63 l61), (4, ia a0), (24, sv a3 a4 a2), (27, ic (IntKind.u64.wrap ((l61.getD a0.toNat zS28).f0))), (30, ic (IntKind.u64.wrap ((l61.getD a0.toNat zS28).f1))), (33, ic (IntKind.u64.wrap ((l61.getD a0.toNat zS28).f2))), (34, pt a1 3), (37, pt a1 4), (40, pt a1 5), (43, pt a1 6)] (bm 26 600063) (by kernel_rfl) (by kernel_rfl) ?_
   refine ED.Y hN hF hC 11 11 (bm 26 602111) (by kernel_rfl) (by kernel_rfl) rfl (fun _ _ _ hS => YO.loadBox hS 0 rfl 3 3 1 (ia ((l61.getD a0.toNat zS28).f3)) 35 (by kernel_rfl) (by kernel_rfl) (by kernel_rfl) (by kernel_rfl)) ?_
   refine ED.quick hN hF hC [12] [0, 4, 24, 27, 30, 33, 36, 37, 40, 43] 10 [(0, sv (some a5) C63 l61), (4, ia a0), (24, sv a3 a4 a2), (27, ic (IntKind.u64.wrap ((l61.getD a0.toNat zS28).f0))), (30, ic (IntKind.u64.wrap ((l61.getD a0.toNat zS28).f1))), (33, ic (IntKind.u64.wrap ((l61.getD a0.toNat zS28).f2))), (36, ic (IntKind.u64.wrap ((l61.getD a0.toNat zS28).f3))), (37, pt a1 4), (40, pt a1 5), (43, pt a1 6)] (bm 26 606207) (by kernel_rfl) (by kernel_rfl) ?_
   refine ED.Y hN hF hC 14 9 (bm 26 622591) (by kernel_rfl) (by kernel_rfl) rfl (fun _ _ _ hS => YO.loadBox hS 0 rfl 21 4 1 (ib ((l61.getD a0.toNat zS28).f4)) 38 (by kernel_rfl) (by kernel_rfl) (by kernel_rfl) (by kernel_rfl)) ?_
   refine ED.quick hN hF hC [15] [0, 4, 24, 27, 30, 33, 36, 39, 40, 43] 8 [(0, sv (some a5) C63 l61), (4, ia a0), (24, sv a3 a4 a2), (27, ic (IntKind.u64.wrap ((l61.getD a0.toNat zS28).f0))), (30, ic (IntKind.u64.wrap ((l61.getD a0.toNat zS28).f1))), (33, ic (IntKind.u64.wrap ((l61.getD a0.toNat zS28).f2))), (36, ic (IntKind.u64.wrap ((l61.getD a0.toNat zS28).f3))), (39, ic (IntKind.u64.wrap ((l61.getD a0.toNat zS28).f4))), (40, pt a1 5), (43, pt a1 6)] (bm 26 655359) (by kernel_rfl) (by kernel_rfl) ?_
   refine ED.Y hN hF hC 17 7 (bm 26 786431) (by kernel_rfl) (by kernel_rfl) rfl (fun _ _ _ hS => YO.loadBox hS 0 rfl 21 5 1 (ib ((l61.getD a0.toNat zS28).f5)) 41 (by kernel_rfl) (by kernel_rfl) (by kernel_rfl) (by kernel_rfl)) ?_
   refine ED.Y hN hF hC 20 6 (bm 26 1835007) (by kernel_rfl) (by kernel_rfl) rfl (fun _ _ _ hS => YO.loadBox hS 0 rfl 21 6 1 (ib ((l61.getD a0.toNat zS28).f6)) 44 (by kernel_rfl) (by kernel_rfl) (by kernel_rfl) (by kernel_rfl)) ?_
   have hq := confidantref1_Int.calls d4 hS
   refine ED.one 18 5 (bm 26 2097151) (by kernel_rfl) (by kernel_rfl) (by kernel_rfl) (EO.callD 45 [ib ((l61.getD a0.toNat zS28).f5)] _ 42 (by kernel_rfl) (by kernel_rfl) (by kernel_rfl) hq ?_)
   rintro v w ⟨rfl, hS⟩
   have hC := hC.again ⟨_, _, hS⟩
   refine ⟨hC, ?_⟩
   have hq := confidantref1_Int.calls d5 hS
   refine ED.one 21 4 (bm 26 4194303) (by kernel_rfl) (by kernel_rfl) (by kernel_rfl) (EO.callD 45 [ib ((l61.getD a0.toNat zS28).f6)] _ 45 (by kernel_rfl) (by kernel_rfl) (by kernel_rfl) hq ?_)
   rintro v w ⟨rfl, hS⟩
   have hC := hC.again ⟨_, _, hS⟩
   refine ⟨hC, ?_⟩
   refine ED.one 22 3 (bm 26 8388607) (by kernel_rfl) (by kernel_rfl) (by kernel_rfl) (EO.lit hS (Kd.int .u64) 77 115 7 #[(0, ic (IntKind.u64.wrap ((l61.getD a0.toNat zS28).f0))), (1, ic (IntKind.u64.wrap ((l61.getD a0.toNat zS28).f1))), (2, ic (IntKind.u64.wrap ((l61.getD a0.toNat zS28).f2))), (3, ic (IntKind.u64.wrap ((l61.getD a0.toNat zS28).f3))), (4, ic (IntKind.u64.wrap ((l61.getD a0.toNat zS28).f4))), (5, ic a7), (6, ic a6)] [ic (IntKind.u64.wrap ((l61.getD a0.toNat zS28).f0)), ic (IntKind.u64.wrap ((l61.getD a0.toNat zS28).f1)), ic (IntKind.u64.wrap ((l61.getD a0.toNat zS28).f2)), ic (IntKind.u64.wrap ((l61.getD a0.toNat zS28).f3)), ic (IntKind.u64.wrap ((l61.getD a0.toNat zS28).f4)), ic a7, ic a6] b6 46 (by kernel_rfl) (by kernel_rfl) (by kernel_rfl) (fun _ => (by kernel_rfl)) (by rw [d0]; rfl) (by kernel_rfl) (fun w G hr => (by rw [d0]; exact ⟨[ic (IntKind.u64.wrap ((l61.getD a0.toNat zS28).f0))], [ic (IntKind.u64.wrap ((l61.getD a0.toNat zS28).f1)), ic (IntKind.u64.wrap ((l61.getD a0.toNat zS28).f2)), ic (IntKind.u64.wrap ((l61.getD a0.toNat zS28).f3)), ic (IntKind.u64.wrap ((l61.getD a0.toNat zS28).f4)), ic a7, ic a6], rfl, rfl, ⟨[ic (IntKind.u64.wrap ((l61.getD a0.toNat zS28).f1))], [ic (IntKind.u64.wrap ((l61.getD a0.toNat zS28).f2)), ic (IntKind.u64.wrap ((l61.getD a0.toNat zS28).f3)), ic (IntKind.u64.wrap ((l61.getD a0.toNat zS28).f4)), ic a7, ic a6], rfl, rfl, ⟨[ic (IntKind.u64.wrap ((l61.getD a0.toNat zS28).f2))], [ic (IntKind.u64.wrap ((l61.getD a0.toNat zS28).f3)), ic (IntKind.u64.wrap ((l61.getD a0.toNat zS28).f4)), ic a7, ic a6], rfl, rfl, ⟨[ic (IntKind.u64.wrap ((l61.getD a0.toNat zS28).f3))], [ic (IntKind.u64.wrap ((l61.getD a0.toNat zS28).f4)), ic a7, ic a6], rfl, rfl, ⟨[ic (IntKind.u64.wrap ((l61.getD a0.toNat zS28).f4))], [ic a7, ic a6], rfl, rfl, ⟨[ic a7], [ic a6], rfl, rfl, ⟨[ic a6], [], rfl, rfl, rfl⟩⟩⟩⟩⟩⟩⟩)) ?_)
   intro c8 w hS
   have hC := hC.again ⟨_, _, hS.re [1] [] rfl sub_self⟩
   refine ⟨hC, ?_⟩
   have hS := St.fr hS 0 rfl
   have hS : St B _ (Ass.box 28 a1 (encS28 (l61.getD a0.toNat zS28)) :: Ass.own 5 (Kd.int .u8) a3 a4 a2 :: os) (Ro.sl (Kd.int .u64) (some ⟨c8, 0, none⟩) 7 b6 :: Ro.sl (Kd.int .u64) (some ⟨b3, 0, none⟩) 1 a8 :: Ro.sl kS28 (some a5) C63 l61 :: rs) := hS.re [] [] rfl (sub_cons 0 rfl (sub_tail (sub_self)))
   have hq := confidantref1_Put.calls d6 hS
   refine ED.one 23 2 (bm 26 16777215) (by kernel_rfl) (by kernel_rfl) (by kernel_rfl) (EO.callD 44 [sv (some ⟨c8, 0, none⟩) 7 b6] _ 47 (by kernel_rfl) (by kernel_rfl) (by kernel_rfl) hq ?_)
   rintro v w ⟨c5, c7, rfl, hS⟩
   have hC := hC.again ⟨_, _, hS.re [1] [] rfl (sub_cons 1 rfl (sub_cons 2 rfl sub_self))⟩
   refine ⟨hC, ?_⟩
   refine ED.one 24 1 (bm 26 33554431) (by kernel_rfl) (by kernel_rfl) (by kernel_rfl) (EO.append hS 33 33 5 1 2 (Kd.int .u8) a3 a4 a2 rfl c5 c7 b8 (Rd.own 0 5 rfl) a9 d7 (fun b0 b2 => Ass.own 5 (Kd.int .u8) c5 c7 b8 :: Ass.box 28 a1 (encS28 (l61.getD a0.toNat zS28)) :: Ass.own 5 (Kd.int .u8) b0 b2 a9 :: os) 48 (by kernel_rfl) (by kernel_rfl) (by kernel_rfl) (by kernel_rfl) d1 (fun _ _ => rfl) ?_)
   intro b0 b2 w hS
   have hC := hC.again ⟨_, _, hS.re [1] [] rfl (sub_cons 1 rfl (sub_cons 2 rfl sub_self))⟩
   refine ⟨hC, ?_⟩
   refine ED.quick hN hF hC [25] [0, 3, 4] 0 [(0, sv (some a5) C63 l61), (3, sv b0 b2 a9), (4, ia a0)] (bm 26 67108863) (by kernel_rfl) (by kernel_rfl) ?_
   refine ED.done (by kernel_rfl) ?_
   refine EQ.pop ?_
   refine EQ.code ?_
   refine EW.rg (by kernel_rfl) ?_
   refine EL.quick 3 [0, 3, 4] [(0, sv (some a5) C63 l61), (3, sv b0 b2 a9), (4, ia (IntKind.i64.wrap (a0 + 1)))] (by kernel_rfl) ?_
   refine EL.done (by kernel_rfl) ?_
   refine EQ.to ?_
   refine EQ.keep [0, 3, 4] [(0, sv (some a5) C63 l61), (3, sv b0 b2 a9), (4, ia (IntKind.i64.wrap (a0 + 1)))] (by kernel_rfl) ?_
   exact fun a ha => ⟨n, Nat.lt_succ_self n, a9, IntKind.i64.wrap (a0 + 1), b0, b2, ha, (hS.re [2] [1, 1] rfl (sub_cons 1 rfl (sub_cons 2 rfl (sub_tail (sub_tail (sub_tail (sub_self))))))), H⟩
  rw [if_neg c3] at H
  refine EW.sq (by kernel_rfl) ?_
  refine EW.rg (by kernel_rfl) ?_
  refine EL.quick 1 [2] [(2, sv none 0 ([] : List Int))] (by kernel_rfl) ?_
  refine EL.done (by kernel_rfl) ?_
  refine EQ.code ?_
  refine EW.ret (by kernel_rfl) ?_
  refine EQ.ret ?_
  refine EQ.ret ?_
  refine EQ.ret ?_
  refine EQ.ret ?_
  refine EQ.ret ?_
  refine EQ.ret ?_
  have hS := St.nilO hS 5 (Kd.int .u8)
  obtain rfl := Option.some.inj H
  exact EQ.leave (sv none 0 ([] : List Int)) (by kernel_rfl) ⟨_, rfl, none, 0, rfl, (hS.re [0] [1, 1] rfl (sub_tail (sub_self)))⟩
 rw [if_neg b4] at H
 refine EW.exit (id := 0) (by kernel_rfl) ?_
 refine EQ.exitCode ?_
 refine EQ.exitTo ?_
 refine EQ.exitHere ?_
 refine EQ.code ?_
 refine EW.sq (by kernel_rfl) ?_
 refine EW.rg (by kernel_rfl) ?_
 refine EL.quick 2 [2] [(2, sv a3 a4 a2)] (by kernel_rfl) ?_
 refine EL.done (by kernel_rfl) ?_
 refine EQ.code ?_
 refine EW.ret (by kernel_rfl) ?_
 obtain rfl := Option.some.inj H
 exact EQ.leave (sv a3 a4 a2) (by kernel_rfl) ⟨_, rfl, a3, a4, rfl, (hS.re [0] [] rfl (sub_tail (sub_self)))⟩

/-! ### (*confidant/confidantref1.Reader).fail: function 82 -/
def confidantref1_Reader_fail.f (K : Nat) (a3 : List Int) (a2 : Int) (a0 : Int) : Option (List Int × Int) := some (([] : List Int), a0)
set_option maxRecDepth 100000 in
theorem confidantref1_Reader_fail.calls {K : Nat} {a3 : List Int} {a2 : Int} {a0 : Int} {a1 : Nat} {a4 : Option Addr} {a5 : Nat} {a6 : List Int} {a9 : Int} {B w : World} {os : List Ass} {rs : List Ro} (H : confidantref1_Reader_fail.f K a3 a2 a0 = some (a6, a9)) (hS : St B w (Ass.box 71 a1 [sv a4 a5 a3, ia a2] :: os) (Ro.sl (Kd.int .u8) a4 a5 a3 :: rs)) :
  Calls Tryd.prog 82 [pt a1 0, ia a0].toArray w (fun en w' => ∃ v, en = .returned v ∧ ∃ a7 : Option Addr, ∃ a8 : Nat, v = .tuple #[] ∧ St B w' (Ass.box 71 a1 [sv a7 a8 a6, ia a9] :: Ass.own 5 (Kd.int .u8) a7 a8 a6 :: os) (Ro.sl (Kd.int .u8) a4 a5 a3 :: rs)) := by
 unfold confidantref1_Reader_fail.f at H
 refine calls_of_EW (args := [pt a1 0, ia a0]) (c := Cd82) 11 Tryd.func82 (by kernel_rfl) (by kernel_rfl) (by kernel_rfl) ?_
 refine EW.rg (by kernel_rfl) ?_
 refine EL.quick 5 [5, 6, 8] [(5, pt a1 0), (6, ia a0), (8, pt a1 0)] (by kernel_rfl) ?_
 refine EL.of (EO.storeBox (os' := Ass.box 71 a1 [sv none 0 ([] : List Int), ia a2] :: os) hS 0 rfl 33 0 (sv none 0 ([] : List Int)) [sv none 0 ([] : List Int), ia a2] (by kernel_rfl) (by kernel_rfl) (by kernel_rfl) (by kernel_rfl) (by kernel_rfl) (by kernel_rfl) rfl rfl ?_)
 intro w hS
 refine EL.quick 2 [6, 10] [(6, ia a0), (10, pt a1 1)] (by kernel_rfl) ?_
 refine EL.of (EO.storeBox (os' := Ass.box 71 a1 [sv none 0 ([] : List Int), ia a0] :: os) hS 0 rfl 3 1 (ia a0) [sv none 0 ([] : List Int), ia a0] (by kernel_rfl) (by kernel_rfl) (by kernel_rfl) (by kernel_rfl) (by kernel_rfl) (by kernel_rfl) rfl rfl ?_)
 intro w hS
 refine EL.done (by kernel_rfl) ?_
 have hS := St.nilO hS 5 (Kd.int .u8)
 simp only [sv, Option.some.injEq, Prod.mk.injEq] at H
 obtain ⟨rfl, rfl⟩ := H
 exact EQ.leaveN (.tuple #[]) (by kernel_rfl) ⟨_, rfl, none, 0, rfl, (hS.re [0, 1] [] rfl (sub_self))⟩

/-! ### (*confidant/confidantref1.Reader).Num: function 61 -/
def confidantref1_Reader_Num.l0 (K : Nat) (a1 : List Int) (a6 : Int) (a3 : Int) (b0 : Option (List Int × Int × Int)) : Nat → Int → Int → Option (List Int × Int × Int)
 | 0, _, _ => none
 | n + 1, a4, a0 => if a0 < (a1.length : Int) then (if 0 ≤ a0 then (lt (fun (b5 : Bool) => (if b5 = true then (b2 (confidantref1_Reader_fail.f K a1 a6 20) fun (d0 : List Int) (d1 : Int) => (some (d0, d1, 0))) else (lt (bO .u64 (sL .u64 a4 7) (IntKind.u64.wrap (bA .u8 (a1.getD a0.toNat 0) 127))) fun a7 => (if (a1.getD a0.toNat 0) < 128 then (if a7 > a3 then (b2 (confidantref1_Reader_fail.f K a1 a6 22) fun (d2 : List Int) (d3 : Int) => (some (d2, d3, 0))) else (if 0 ≤ (IntKind.i64.wrap (a0 + 1)) then (if (IntKind.i64.wrap (a0 + 1)) ≤ (a1.length : Int) then (lt (a1.drop ((IntKind.i64.wrap (a0 + 1)).toNat)) fun b1 => (some (b1, a6, a7))) else none) else none)) else (confidantref1_Reader_Num.l0 K a1 a6 a3 b0 n a7 (IntKind.i64.wrap (a0 + 1))))))) fun b8 => (if a0 = 0 then (if (a1.getD a0.toNat 0) = 128 then (b8 true) else (b8 (decide (a4 > 144115188075855871)))) else (b8 (decide (a4 > 144115188075855871))))) else none) else (b0)
def confidantref1_Reader_Num.f (K : Nat) (a1 : List Int) (a6 : Int) (a3 : Int) : Option (List Int × Int × Int) := if a6 = 0 then (lt (b2 (confidantref1_Reader_fail.f K a1 a6 21) fun (d4 : List Int) (d5 : Int) => (some (d4, d5, 0))) fun b0 => (confidantref1_Reader_Num.l0 K a1 a6 a3 b0 K 0 0)) else (some (a1, a6, 0))
set_option maxRecDepth 100000 in
theorem confidantref1_Reader_Num.calls {K : Nat} {a1 : List Int} {a6 : Int} {a3 : Int} {a2 : Nat} {a8 : Option Addr} {a5 : Nat} {b4 : List Int} {b9 : Int} {c0 : Int} {B w : World} {os : List Ass} {rs : List Ro} (H : confidantref1_Reader_Num.f K a1 a6 a3 = some (b4, b9, c0)) (hS : St B w (Ass.box 71 a2 [sv a8 a5 a1, ia a6] :: os) (Ro.sl (Kd.int .u8) a8 a5 a1 :: rs)) :
  Calls Tryd.prog 61 [pt a2 0, ic a3].toArray w (fun en w' => ∃ v, en = .returned v ∧ ∃ c8 : Option Addr, ∃ c9 : Nat, v = ic c0 ∧ St B w' (Ass.box 71 a2 [sv c8 c9 b4, ia b9] :: os) (Ro.sl (Kd.int .u8) c8 c9 b4 :: Ro.sl (Kd.int .u8) a8 a5 a1 :: rs)) := by
 unfold confidantref1_Reader_Num.f at H
 refine calls_of_EW (args := [pt a2 0, ic a3]) (c := Cd61) 67 Tryd.func61 (by kernel_rfl) (by kernel_rfl) (by kernel_rfl) ?_
 refine EW.sq (by kernel_rfl) ?_
 refine EW.rg (by kernel_rfl) ?_
 refine EL.quick 1 [0, 1] [(0, pt a2 0), (1, ic a3)] (by kernel_rfl) ?_
 refine EL.done (by kernel_rfl) ?_
 refine EQ.code ?_
 refine EW.sq (by kernel_rfl) ?_
 refine EW.sq (by kernel_rfl) ?_
 refine EW.rg (by kernel_rfl) ?_
 refine EL.quick 3 [0, 1, 10] [(0, pt a2 0), (1, ic a3), (10, pt a2 1)] (by kernel_rfl) ?_
 refine EL.of (EO.Y (YO.loadBox hS 0 rfl 3 1 1 (ia a6) 11 (by kernel_rfl) (by kernel_rfl) (by kernel_rfl) (by kernel_rfl)) ?_)
 refine EL.quick 1 [0, 1, 12] [(0, pt a2 0), (1, ic a3), (12, .bool (!(decide (a6 = 0))))] (by kernel_rfl) ?_
 refine EL.done (by kernel_rfl) ?_
 refine EQ.code ?_
 refine EW.cdQ (b := !(decide (a6 = 0))) (a6 = 0) (false) (by kernel_rfl) (by kernel_rfl) ⟨fun h => (by rw [decide_eq_true h] <;> rfl), fun h => (by rw [decide_eq_false h] <;> rfl)⟩ (fun c3 => ?_) (fun c3 => ?_)
 ·rw [if_pos c3] at H
  refine EW.skip (by kernel_rfl) ?_
  refine EQ.code ?_
  refine EW.sq (by kernel_rfl) ?_
  refine EW.rg (by kernel_rfl) ?_
  refine EL.quick 1 [0, 1, 5] [(0, pt a2 0), (1, ic a3), (5, ic 0)] (by kernel_rfl) ?_
  refine EL.done (by kernel_rfl) ?_
  refine EQ.code ?_
  obtain ⟨b0, e5, H⟩ := lt_out H
  refine EW.ct (fun a w => Sat 67 [(0, pt a2 0)] a ∧ St B w (Ass.box 71 a2 [sv a8 a5 a1, ia a6] :: os) (Ro.sl (Kd.int .u8) a8 a5 a1 :: rs) ∧ b0 = some (b4, b9, c0)) (by kernel_rfl) ?_ (fun a w hI => ?_)
  ·refine EW.sq (by kernel_rfl) ?_
   refine EW.rg (by kernel_rfl) ?_
   refine EL.quick 1 [0, 1, 5, 6] [(0, pt a2 0), (1, ic a3), (5, ic 0), (6, ia 0)] (by kernel_rfl) ?_
   refine EL.done (by kernel_rfl) ?_
   refine EQ.code ?_
   refine EW.bl 0 (by kernel_rfl) ?_
   refine EW.lp (fun n a w => ∃ a4 : Int, ∃ a0 : Int, Sat 67 [(0, pt a2 0), (1, ic a3), (5, ic a4), (6, ia a0)] a ∧ St B w (Ass.box 71 a2 [sv a8 a5 a1, ia a6] :: os) (Ro.sl (Kd.int .u8) a8 a5 a1 :: rs) ∧ confidantref1_Reader_Num.l0 K a1 a6 a3 b0 n a4 a0 = some (b4, b9, c0)) K (by kernel_rfl) ?_ (fun n a w hI => ?_)
   ·refine EQ.keep [0, 1, 5, 6] [(0, pt a2 0), (1, ic a3), (5, ic 0), (6, ia 0)] (by kernel_rfl) ?_
    exact fun a ha => ⟨0, 0, ha, (hS.re [0] [] rfl (sub_cons 0 rfl (sub_tail (sub_self)))), H⟩
   obtain ⟨a4, a0, ha, hS, H⟩ := hI
   obtain _ | n := n
   ·simp [confidantref1_Reader_Num.l0] at H
   rw [confidantref1_Reader_Num.l0.eq_2] at H
   refine EW.at ?_ a ha
   clear ha a
   refine EW.sq (by kernel_rfl) ?_
   refine EW.sq (by kernel_rfl) ?_
   refine EW.rg (by kernel_rfl) ?_
   refine EL.quick 4 [0, 1, 5, 6, 13, 16] [(0, pt a2 0), (1, ic a3), (5, ic a4), (6, ia a0), (13, ia a0), (16, pt a2 0)] (by kernel_rfl) ?_
   refine EL.of (EO.Y (YO.loadBox hS 0 rfl 33 0 1 (sv a8 a5 a1) 17 (by kernel_rfl) (by kernel_rfl) (by kernel_rfl) (by kernel_rfl)) ?_)
   refine EL.quick 2 [0, 1, 5, 6, 19] [(0, pt a2 0), (1, ic a3), (5, ic a4), (6, ia a0), (19, .bool (decide (a0 < (a1.length : Int))))] (by kernel_rfl) ?_
   refine EL.done (by kernel_rfl) ?_
   refine EQ.code ?_
   refine EW.cdP (a0 < (a1.length : Int)) (by kernel_rfl) (by kernel_rfl) (fun b3 => ?_) (fun b3 => ?_)
   ·rw [if_pos b3] at H
    refine EW.skip (by kernel_rfl) ?_
    refine EQ.code ?_
    refine EW.sq (by kernel_rfl) ?_
    refine EW.bl 1 (by kernel_rfl) ?_
    refine EW.sq (by kernel_rfl) ?_
    refine EW.rg (by kernel_rfl) ?_
    refine EL.quick 3 [0, 1, 5, 6, 24] [(0, pt a2 0), (1, ic a3), (5, ic a4), (6, ia a0), (24, pt a2 0)] (by kernel_rfl) ?_
    refine EL.of (EO.Y (YO.loadBox hS 0 rfl 33 0 1 (sv a8 a5 a1) 25 (by kernel_rfl) (by kernel_rfl) (by kernel_rfl) (by kernel_rfl)) ?_)
    refine EL.quick 1 [0, 1, 5, 6, 25, 26] [(0, pt a2 0), (1, ic a3), (5, ic a4), (6, ia a0), (25, sv a8 a5 a1), (26, ia a0)] (by kernel_rfl) ?_
    obtain ⟨c4, H⟩ := ite_in H
    obtain ⟨a9, rfl⟩ := St.rd_some hS (Rd.ro 0 rfl) c4 b3
    refine EL.of (EO.Y (YO.idx 33 1 a9 a1.length a5 .i64 a0 27 (by kernel_rfl) (by kernel_rfl) (by kernel_rfl) (by kernel_rfl) c4 b3) ?_)
    refine EL.of (EO.Y (YO.loadEl hS (Kd.int .u8) a9 a5 a1 (Rd.ro 0 rfl) 0 (encI .u8) encI_of a0 c4 b3 5 1 0 1 rfl (ig (a1.getD a0.toNat 0)) 28 (by kernel_rfl) (by kernel_rfl) (by kernel_rfl) (by kernel_rfl)) ?_)
    refine EL.quick 1 [0, 1, 5, 6, 7] [(0, pt a2 0), (1, ic a3), (5, ic a4), (6, ia a0), (7, ig (a1.getD a0.toNat 0))] (by kernel_rfl) ?_
    refine EL.done (by kernel_rfl) ?_
    refine EQ.code ?_
    refine EW.sq (by kernel_rfl) ?_
    obtain ⟨b8, e6, H⟩ := lt_out H
    refine EW.ct (fun a w => ∃ b5 : Bool, Sat 67 [(0, pt a2 0), (1, ic a3), (5, ic a4), (6, ia a0), (7, ig (a1.getD a0.toNat 0)), (38, .bool (b5))] a ∧ St B w (Ass.box 71 a2 [sv (some a9) a5 a1, ia a6] :: os) (Ro.sl (Kd.int .u8) (some a9) a5 a1 :: rs) ∧ b8 b5 = some (b4, b9, c0)) (by kernel_rfl) ?_ (fun a w hI => ?_)
    ·refine EW.rg (by kernel_rfl) ?_
     refine EL.quick 3 [0, 1, 5, 6, 7, 31] [(0, pt a2 0), (1, ic a3), (5, ic a4), (6, ia a0), (7, ig (a1.getD a0.toNat 0)), (31, .bool (decide (a0 = 0)))] (by kernel_rfl) ?_
     by_cases c1 : a0 = 0
     ·rw [if_pos c1] at H
      refine EL.keep [0, 1, 5, 6, 7, 31] [(0, pt a2 0), (1, ic a3), (5, ic a4), (6, ia a0), (7, ig (a1.getD a0.toNat 0)), (31, .bool (decide (a0 = 0)))] (by kernel_rfl) ?_
      refine EL.as' [(0, pt a2 0), (1, ic a3), (5, ic a4), (6, ia a0), (7, ig (a1.getD a0.toNat 0)), (31, .bool (true))] (by simp only [sv, dec_t c1, Bool.not_true, Bool.not_false]) ?_
      refine EL.quick 4 [0, 1, 5, 6, 7, 32, 33, 35] [(0, pt a2 0), (1, ic a3), (5, ic a4), (6, ia a0), (7, ig (a1.getD a0.toNat 0)), (32, ig (a1.getD a0.toNat 0)), (33, .bool (decide ((a1.getD a0.toNat 0) = 128))), (35, .bool (decide ((a1.getD a0.toNat 0) = 128)))] (by kernel_rfl) ?_
      by_cases c2 : (a1.getD a0.toNat 0) = 128
      ·rw [if_pos c2] at H
       refine EL.keep [0, 1, 5, 6, 7, 32, 33, 35] [(0, pt a2 0), (1, ic a3), (5, ic a4), (6, ia a0), (7, ig (a1.getD a0.toNat 0)), (32, ig (a1.getD a0.toNat 0)), (33, .bool (decide ((a1.getD a0.toNat 0) = 128))), (35, .bool (decide ((a1.getD a0.toNat 0) = 128)))] (by kernel_rfl) ?_
       refine EL.as' [(0, pt a2 0), (1, ic a3), (5, ic a4), (6, ia a0), (7, ig (a1.getD a0.toNat 0)), (32, ig (a1.getD a0.toNat 0)), (33, .bool (true)), (35, .bool (true))] (by simp only [sv, dec_t c2, Bool.not_true, Bool.not_false]) ?_
       refine EL.quick 3 [0, 1, 5, 6, 7, 32, 33, 38] [(0, pt a2 0), (1, ic a3), (5, ic a4), (6, ia a0), (7, ig (a1.getD a0.toNat 0)), (32, ig (a1.getD a0.toNat 0)), (33, .bool (true)), (38, .bool (true))] (by kernel_rfl) ?_
       refine EL.done (by kernel_rfl) ?_
       refine EQ.to ?_
       refine EQ.keep [0, 1, 5, 6, 7, 38] [(0, pt a2 0), (1, ic a3), (5, ic a4), (6, ia a0), (7, ig (a1.getD a0.toNat 0)), (38, .bool (true))] (by kernel_rfl) ?_
       exact fun a ha => ⟨true, ha, (hS.re [0] [] rfl (sub_cons 0 rfl (sub_tail (sub_self)))), H⟩
      rw [if_neg c2] at H
      refine EL.keep [0, 1, 5, 6, 7, 32, 33, 35] [(0, pt a2 0), (1, ic a3), (5, ic a4), (6, ia a0), (7, ig (a1.getD a0.toNat 0)), (32, ig (a1.getD a0.toNat 0)), (33, .bool (decide ((a1.getD a0.toNat 0) = 128))), (35, .bool (decide ((a1.getD a0.toNat 0) = 128)))] (by kernel_rfl) ?_
      refine EL.as' [(0, pt a2 0), (1, ic a3), (5, ic a4), (6, ia a0), (7, ig (a1.getD a0.toNat 0)), (32, ig (a1.getD a0.toNat 0)), (33, .bool (false)), (35, .bool (false))] (by simp only [sv, dec_f c2, Bool.not_true, Bool.not_false]) ?_
      refine EL.quick 3 [0, 1, 5, 6, 7, 32, 33, 36, 37, 38] [(0, pt a2 0), (1, ic a3), (5, ic a4), (6, ia a0), (7, ig (a1.getD a0.toNat 0)), (32, ig (a1.getD a0.toNat 0)), (33, .bool (false)), (36, ic a4), (37, .bool (decide (a4 > 144115188075855871))), (38, .bool (decide (a4 > 144115188075855871)))] (by kernel_rfl) ?_
      refine EL.done (by kernel_rfl) ?_
      refine EQ.to ?_
      refine EQ.keep [0, 1, 5, 6, 7, 38] [(0, pt a2 0), (1, ic a3), (5, ic a4), (6, ia a0), (7, ig (a1.getD a0.toNat 0)), (38, .bool (decide (a4 > 144115188075855871)))] (by kernel_rfl) ?_
      exact fun a ha => ⟨decide (a4 > 144115188075855871), ha, (hS.re [0] [] rfl (sub_cons 0 rfl (sub_tail (sub_self)))), H⟩
     rw [if_neg c1] at H
     refine EL.keep [0, 1, 5, 6, 7, 31] [(0, pt a2 0), (1, ic a3), (5, ic a4), (6, ia a0), (7, ig (a1.getD a0.toNat 0)), (31, .bool (decide (a0 = 0)))] (by kernel_rfl) ?_
     refine EL.as' [(0, pt a2 0), (1, ic a3), (5, ic a4), (6, ia a0), (7, ig (a1.getD a0.toNat 0)), (31, .bool (false))] (by simp only [sv, dec_f c1, Bool.not_true, Bool.not_false]) ?_
     refine EL.quick 7 [0, 1, 5, 6, 7, 36, 37, 38] [(0, pt a2 0), (1, ic a3), (5, ic a4), (6, ia a0), (7, ig (a1.getD a0.toNat 0)), (36, ic a4), (37, .bool (decide (a4 > 144115188075855871))), (38, .bool (decide (a4 > 144115188075855871)))] (by kernel_rfl) ?_
     refine EL.done (by kernel_rfl) ?_
     refine EQ.to ?_
     refine EQ.keep [0, 1, 5, 6, 7, 38] [(0, pt a2 0), (1, ic a3), (5, ic a4), (6, ia a0), (7, ig (a1.getD a0.toNat 0)), (38, .bool (decide (a4 > 144115188075855871)))] (by kernel_rfl) ?_
     exact fun a ha => ⟨decide (a4 > 144115188075855871), ha, (hS.re [0] [] rfl (sub_cons 0 rfl (sub_tail (sub_self)))), H⟩
    obtain ⟨b5, ha, hS, H⟩ := hI
    rw [e6] at H
    (try dsimp only at H)
    refine EW.at ?_ a ha
    clear ha a
    refine EW.cdP' (b5) (by kernel_rfl) (by kernel_rfl) (fun c5 => ?_) (fun c5 => ?_)
    ·rw [if_pos c5] at H
     refine EW.sq (by kernel_rfl) ?_
     refine EW.rg (by kernel_rfl) ?_
     refine EL.quick 1 [39] [(39, pt a2 0)] (by kernel_rfl) ?_
     have hS : St B _ (Ass.box 71 a2 [sv (some a9) a5 a1, ia a6] :: os) (Ro.sl (Kd.int .u8) (some a9) a5 a1 :: rs) := hS.re [0] [] rfl (sub_cons 0 rfl (sub_tail (sub_self)))
     obtain ⟨d0, d1, e2, H⟩ := b2_out H
     have hq := confidantref1_Reader_fail.calls e2 hS
     refine EL.of (EO.callD 82 [pt a2 0, ia 20] _ 40 (by kernel_rfl) (by kernel_rfl) (by kernel_rfl) hq ?_)
     rintro v w ⟨d6, d9, rfl, hS⟩
     refine EL.done (by kernel_rfl) ?_
     refine EQ.code ?_
     refine EW.sq (by kernel_rfl) ?_
     refine EW.rg (by kernel_rfl) ?_
     refine EL.quick 1 [4] [(4, ic 0)] (by kernel_rfl) ?_
     refine EL.done (by kernel_rfl) ?_
     refine EQ.code ?_
     refine EW.ret (by kernel_rfl) ?_
     refine EQ.ret ?_
     refine EQ.ret ?_
     refine EQ.ret ?_
     refine EQ.ret ?_
     refine EQ.ret ?_
     refine EQ.ret ?_
     have hS := St.fr hS 1 rfl
     simp only [sv, Option.some.injEq, Prod.mk.injEq] at H
     obtain ⟨rfl, rfl, rfl⟩ := H
     exact EQ.leave (ic 0) (by kernel_rfl) ⟨_, rfl, d6, d9, rfl, (hS.re [0] [] rfl (sub_cons 0 rfl (sub_tail (sub_self))))⟩
    rw [if_neg c5] at H
    refine EW.skip (by kernel_rfl) ?_
    refine EQ.code ?_
    refine EW.sq (by kernel_rfl) ?_
    refine EW.rg (by kernel_rfl) ?_
    refine EL.quick 7 [0, 1, 5, 6, 7] [(0, pt a2 0), (1, ic a3), (5, ic (bO .u64 (sL .u64 a4 7) (IntKind.u64.wrap (bA .u8 (a1.getD a0.toNat 0) 127)))), (6, ia a0), (7, ig (a1.getD a0.toNat 0))] (by kernel_rfl) ?_
    obtain ⟨a7, e8, H⟩ := lt_out H
    refine EL.keep [0, 1, 5, 6, 7] [(0, pt a2 0), (1, ic a3), (5, ic (bO .u64 (sL .u64 a4 7) (IntKind.u64.wrap (bA .u8 (a1.getD a0.toNat 0) 127)))), (6, ia a0), (7, ig (a1.getD a0.toNat 0))] (by kernel_rfl) ?_
    refine EL.as' [(0, pt a2 0), (1, ic a3), (5, ic a7), (6, ia a0), (7, ig (a1.getD a0.toNat 0))] (by subst e8; rfl) ?_
    refine EL.done (by kernel_rfl) ?_
    refine EQ.code ?_
    refine EW.sq (by kernel_rfl) ?_
    refine EW.rg (by kernel_rfl) ?_
    refine EL.quick 2 [0, 1, 5, 6, 48] [(0, pt a2 0), (1, ic a3), (5, ic a7), (6, ia a0), (48, .bool (decide ((a1.getD a0.toNat 0) < 128)))] (by kernel_rfl) ?_
    refine EL.done (by kernel_rfl) ?_
    refine EQ.code ?_
    refine EW.cdP ((a1.getD a0.toNat 0) < 128) (by kernel_rfl) (by kernel_rfl) (fun c6 => ?_) (fun c6 => ?_)
    ·rw [if_pos c6] at H
     refine EW.sq (by kernel_rfl) ?_
     refine EW.sq (by kernel_rfl) ?_
     refine EW.rg (by kernel_rfl) ?_
     refine EL.quick 3 [0, 5, 6, 51] [(0, pt a2 0), (5, ic a7), (6, ia a0), (51, .bool (decide (a7 > a3)))] (by kernel_rfl) ?_
     refine EL.done (by kernel_rfl) ?_
     refine EQ.code ?_
     refine EW.cdP (a7 > a3) (by kernel_rfl) (by kernel_rfl) (fun c7 => ?_) (fun c7 => ?_)
     ·rw [if_pos c7] at H
      refine EW.sq (by kernel_rfl) ?_
      refine EW.rg (by kernel_rfl) ?_
      refine EL.quick 1 [52] [(52, pt a2 0)] (by kernel_rfl) ?_
      have hS : St B _ (Ass.box 71 a2 [sv (some a9) a5 a1, ia a6] :: os) (Ro.sl (Kd.int .u8) (some a9) a5 a1 :: rs) := hS.re [0] [] rfl (sub_cons 0 rfl (sub_tail (sub_self)))
      obtain ⟨d2, d3, e3, H⟩ := b2_out H
      have hq := confidantref1_Reader_fail.calls e3 hS
      refine EL.of (EO.callD 82 [pt a2 0, ia 22] _ 53 (by kernel_rfl) (by kernel_rfl) (by kernel_rfl) hq ?_)
      rintro v w ⟨d7, e0, rfl, hS⟩
      refine EL.done (by kernel_rfl) ?_
      refine EQ.code ?_
      refine EW.sq (by kernel_rfl) ?_
      refine EW.rg (by kernel_rfl) ?_
      refine EL.quick 1 [4] [(4, ic 0)] (by kernel_rfl) ?_
      refine EL.done (by kernel_rfl) ?_
      refine EQ.code ?_
      refine EW.ret (by kernel_rfl) ?_
      refine EQ.ret ?_
      refine EQ.ret ?_
      refine EQ.ret ?_
      refine EQ.ret ?_
      refine EQ.ret ?_
      refine EQ.ret ?_
      have hS := St.fr hS 1 rfl
      simp only [sv, Option.some.injEq, Prod.mk.injEq] at H
      obtain ⟨rfl, rfl, rfl⟩ := H
      exact EQ.leave (ic 0) (by kernel_rfl) ⟨_, rfl, d7, e0, rfl, (hS.re [0] [] rfl (sub_cons 0 rfl (sub_tail (sub_self))))⟩
     rw [if_neg c7] at H
     refine EW.skip (by kernel_rfl) ?_
     refine EQ.code ?_
     refine EW.sq (by kernel_rfl) ?_
     refine EW.rg (by kernel_rfl) ?_
     refine EL.quick 4 [5, 6, 54, 57] [(5, ic a7), (6, ia a0), (54, pt a2 0), (57, pt a2 0)] (by kernel_rfl) ?_
     refine EL.of (EO.Y (YO.loadBox hS 0 rfl 33 0 1 (sv (some a9) a5 a1) 58 (by kernel_rfl) (by kernel_rfl) (by kernel_rfl) (by kernel_rfl)) ?_)
     refine EL.quick 2 [5, 54, 58, 60] [(5, ic a7), (54, pt a2 0), (58, sv (some a9) a5 a1), (60, ia (IntKind.i64.wrap (a0 + 1)))] (by kernel_rfl) ?_
     obtain ⟨e9, H⟩ := ite_in H
     obtain ⟨f0, H⟩ := ite_in H
     obtain ⟨b1, e7, H⟩ := lt_out H
     refine EL.of (EO.sliceRo hS (Kd.int .u8) (some a9) a5 a1 0 rfl (some (ia (IntKind.i64.wrap (a0 + 1)))) none none ((IntKind.i64.wrap (a0 + 1)).toNat) a1.length a5 b1 (by rw [e7]; exact (slice_lo _ _)) 33 61 (by kernel_rfl) (by kernel_rfl) (by kernel_rfl) (by kernel_rfl) ((Int.toNat_of_nonneg (by omega)).symm) (rfl) ⟨rfl, fun h => by first | rfl | cases h⟩ (by omega) (by omega) (.inl rfl) ?_)
     intro b6 b7 hS
     refine EL.quick 2 [5, 61, 63] [(5, ic a7), (61, sv b6 b7 b1), (63, pt a2 0)] (by kernel_rfl) ?_
     refine EL.of (EO.storeBox (os' := Ass.box 71 a2 [sv b6 b7 b1, ia a6] :: os) hS 0 rfl 33 0 (sv b6 b7 b1) [sv b6 b7 b1, ia a6] (by kernel_rfl) (by kernel_rfl) (by kernel_rfl) (by kernel_rfl) (by kernel_rfl) (by kernel_rfl) rfl rfl ?_)
     intro w hS
     refine EL.done (by kernel_rfl) ?_
     refine EQ.code ?_
     refine EW.sq (by kernel_rfl) ?_
     refine EW.rg (by kernel_rfl) ?_
     refine EL.quick 2 [4] [(4, ic a7)] (by kernel_rfl) ?_
     refine EL.done (by kernel_rfl) ?_
     refine EQ.code ?_
     refine EW.ret (by kernel_rfl) ?_
     refine EQ.ret ?_
     refine EQ.ret ?_
     refine EQ.ret ?_
     refine EQ.ret ?_
     refine EQ.ret ?_
     simp only [sv, Option.some.injEq, Prod.mk.injEq] at H
     obtain ⟨rfl, rfl, rfl⟩ := H
     exact EQ.leave (ic a7) (by kernel_rfl) ⟨_, rfl, b6, b7, rfl, (hS.re [0] [] rfl (sub_cons 0 rfl (sub_tail (sub_self))))⟩
    rw [if_neg c6] at H
    refine EW.skip (by kernel_rfl) ?_
    refine EQ.pop ?_
    refine EQ.code ?_
    refine EW.rg (by kernel_rfl) ?_
    refine EL.quick 3 [0, 1, 5, 6] [(0, pt a2 0), (1, ic a3), (5, ic a7), (6, ia (IntKind.i64.wrap (a0 + 1)))] (by kernel_rfl) ?_
    refine EL.done (by kernel_rfl) ?_
    refine EQ.to ?_
    refine EQ.keep [0, 1, 5, 6] [(0, pt a2 0), (1, ic a3), (5, ic a7), (6, ia (IntKind.i64.wrap (a0 + 1)))] (by kernel_rfl) ?_
    exact fun a ha => ⟨n, Nat.lt_succ_self n, a7, IntKind.i64.wrap (a0 + 1), ha, (hS.re [0] [] rfl (sub_cons 0 rfl (sub_tail (sub_self)))), H⟩
   rw [if_neg b3] at H
   refine EW.exit (id := 0) (by kernel_rfl) ?_
   refine EQ.exitCode ?_
   refine EQ.exitTo ?_
   refine EQ.exitHere ?_
   refine EQ.to ?_
   refine EQ.keep [0] [(0, pt a2 0)] (by kernel_rfl) ?_
   exact fun a ha => ⟨ha, (hS.re [0] [] rfl (sub_cons 0 rfl (sub_tail (sub_self)))), H⟩
  obtain ⟨ha, hS, H⟩ := hI
  rw [e5] at H
  (try dsimp only at H)
  refine EW.at ?_ a ha
  clear ha a
  refine EW.sq (by kernel_rfl) ?_
  refine EW.rg (by kernel_rfl) ?_
  refine EL.quick 1 [65] [(65, pt a2 0)] (by kernel_rfl) ?_
  have hS : St B _ (Ass.box 71 a2 [sv a8 a5 a1, ia a6] :: os) (Ro.sl (Kd.int .u8) a8 a5 a1 :: rs) := hS.re [0] [] rfl (sub_cons 0 rfl (sub_tail (sub_self)))
  obtain ⟨d4, d5, e4, H⟩ := b2_out H
  have hq := confidantref1_Reader_fail.calls e4 hS
  refine EL.of (EO.callD 82 [pt a2 0, ia 21] _ 66 (by kernel_rfl) (by kernel_rfl) (by kernel_rfl) hq ?_)
  rintro v w ⟨d8, e1, rfl, hS⟩
  refine EL.done (by kernel_rfl) ?_
  refine EQ.code ?_
  refine EW.sq (by kernel_rfl) ?_
  refine EW.rg (by kernel_rfl) ?_
  refine EL.quick 1 [4] [(4, ic 0)] (by kernel_rfl) ?_
  refine EL.done (by kernel_rfl) ?_
  refine EQ.code ?_
  refine EW.ret (by kernel_rfl) ?_
  have hS := St.fr hS 1 rfl
  simp only [sv, Option.some.injEq, Prod.mk.injEq] at H
  obtain ⟨rfl, rfl, rfl⟩ := H
  exact EQ.leave (ic 0) (by kernel_rfl) ⟨_, rfl, d8, e1, rfl, (hS.re [0] [] rfl (sub_cons 0 rfl (sub_tail (sub_self))))⟩
 rw [if_neg c3] at H
 refine EW.sq (by kernel_rfl) ?_
 refine EW.rg (by kernel_rfl) ?_
 refine EL.quick 1 [4] [(4, ic 0)] (by kernel_rfl) ?_
 refine EL.done (by kernel_rfl) ?_
 refine EQ.code ?_
 refine EW.ret (by kernel_rfl) ?_
 refine EQ.ret ?_
 simp only [sv, Option.some.injEq, Prod.mk.injEq] at H
 obtain ⟨rfl, rfl, rfl⟩ := H
 exact EQ.leave (ic 0) (by kernel_rfl) ⟨_, rfl, a8, a5, rfl, (hS.re [0] [] rfl (sub_cons 0 rfl (sub_self)))⟩

/-! ### (*confidant/confidantref1.Reader).Word: function 62 -/
def confidantref1_Reader_Word.f (K : Nat) (a1 : List Int) (a4 : Int) : Option (List Int × Int × Int) := b3 (confidantref1_Reader_Num.f K a1 a4 4294967295) fun (a9 : List Int) (b0 : Int) (a5 : Int) => (some (a9, b0, IntKind.i32.wrap (IntKind.u32.wrap a5)))
set_option maxRecDepth 100000 in
theorem confidantref1_Reader_Word.calls {K : Nat} {a1 : List Int} {a4 : Int} {a0 : Nat} {a2 : Option Addr} {a3 : Nat} {a6 : List Int} {b1 : Int} {b2 : Int} {B w : World} {os : List Ass} {rs : List Ro} (H : confidantref1_Reader_Word.f K a1 a4 = some (a6, b1, b2)) (hS : St B w (Ass.box 71 a0 [sv a2 a3 a1, ia a4] :: os) (Ro.sl (Kd.int .u8) a2 a3 a1 :: rs)) :
  Calls Tryd.prog 62 [pt a0 0].toArray w (fun en w' => ∃ v, en = .returned v ∧ ∃ a7 : Option Addr, ∃ a8 : Nat, v = ib b2 ∧ St B w' (Ass.box 71 a0 [sv a7 a8 a6, ia b1] :: os) (Ro.sl (Kd.int .u8) a7 a8 a6 :: Ro.sl (Kd.int .u8) a2 a3 a1 :: rs)) := by
 unfold confidantref1_Reader_Word.f at H
 refine calls_of_EW (args := [pt a0 0]) (c := Cd62) 7 Tryd.func62 (by kernel_rfl) (by kernel_rfl) (by kernel_rfl) ?_
 refine EW.sq (by kernel_rfl) ?_
 refine EW.rg (by kernel_rfl) ?_
 refine EL.quick 1 [0] [(0, pt a0 0)] (by kernel_rfl) ?_
 refine EL.done (by kernel_rfl) ?_
 refine EQ.code ?_
 refine EW.sq (by kernel_rfl) ?_
 refine EW.rg (by kernel_rfl) ?_
 refine EL.quick 1 [3] [(3, pt a0 0)] (by kernel_rfl) ?_
 have hS : St B _ (Ass.box 71 a0 [sv a2 a3 a1, ia a4] :: os) (Ro.sl (Kd.int .u8) a2 a3 a1 :: rs) := hS.re [0] [] rfl (sub_cons 0 rfl (sub_tail (sub_self)))
 obtain ⟨a9, b0, a5, b6, H⟩ := b3_out H
 have hq := confidantref1_Reader_Num.calls b6 hS
 refine EL.of (EO.callD 61 [pt a0 0, ic 4294967295] _ 4 (by kernel_rfl) (by kernel_rfl) (by kernel_rfl) hq ?_)
 rintro v w ⟨b4, b5, rfl, hS⟩
 refine EL.quick 3 [2] [(2, ib (IntKind.i32.wrap (IntKind.u32.wrap a5)))] (by kernel_rfl) ?_
 refine EL.done (by kernel_rfl) ?_
 refine EQ.code ?_
 refine EW.ret (by kernel_rfl) ?_
 simp only [sv, Option.some.injEq, Prod.mk.injEq] at H
 obtain ⟨rfl, rfl, rfl⟩ := H
 exact EQ.leave (ib (IntKind.i32.wrap (IntKind.u32.wrap a5))) (by kernel_rfl) ⟨_, rfl, b4, b5, rfl, (hS.re [0] [] rfl (sub_cons 0 rfl (sub_tail (sub_self))))⟩

/-! ### confidant/confidantref21.EventsRead: function 28 -/
def confidantref21_EventsRead.l0 (K : Nat) (e6 : (List Int) → Int → (List S28) → Bool → Option (List S28 × Int)) (a4 : Int) : Nat → (List Int) → Int → (List S28) → Bool → Int → Option (List S28 × Int)
 | 0, _, _, _, _, _ => none
 | n + 1, c4, c5, a1, a7, a5 => lt (fun (g2 : Bool) => (if g2 = true then (b3 (confidantref1_Reader_Num.f K c4 c5 65536) fun (d2 : List Int) (i7 : Int) (a8 : Int) => (b3 (confidantref1_Reader_Num.f K d2 i7 16) fun (d4 : List Int) (i8 : Int) (a9 : Int) => (b3 (confidantref1_Reader_Num.f K d4 i8 11) fun (d8 : List Int) (i9 : Int) (b0 : Int) => (b3 (confidantref1_Reader_Num.f K d8 i9 8) fun (e2 : List Int) (j0 : Int) (b2 : Int) => (b3 (confidantref1_Reader_Num.f K e2 j0 2147483647) fun (e7 : List Int) (j1 : Int) (b5 : Int) => (b3 (confidantref1_Reader_Word.f K e7 j1) fun (f9 : List Int) (j2 : Int) (b9 : Int) => (b3 (confidantref1_Reader_Word.f K f9 j2) fun (e8 : List Int) (g0 : Int) (c0 : Int) => (lt (fun (d5 : Bool) => (lt ([(⟨IntKind.i64.wrap a8, IntKind.i64.wrap a9, IntKind.i64.wrap b0, IntKind.i64.wrap b2, IntKind.i32.wrap b5, b9, c0⟩ : S28)] : List S28) fun f8 => (if (a1.length + f8.length) * 48 ≤ 140737488355328 then (lt (a1 ++ f8) fun e1 => (confidantref21_EventsRead.l0 K e6 a4 n e8 g0 e1 d5 (IntKind.u64.wrap (a5 + 1)))) else none))) fun i6 => (if a7 = true then (b1 (confidantref21_EventRight.f K (⟨IntKind.i64.wrap a8, IntKind.i64.wrap a9, IntKind.i64.wrap b0, IntKind.i64.wrap b2, IntKind.i32.wrap b5, b9, c0⟩ : S28)) fun (g1 : Bool) => (i6 g1)) else (i6 false)))))))))) else (e6 c4 c5 a1 a7))) fun i5 => (if a5 < a4 then (i5 (decide (c5 = 0))) else (i5 false))
def confidantref21_EventsRead.f (K : Nat) (b8 : List Int) : Option (List S28 × Int) := b3 (confidantref1_Reader_Num.f K b8 0 2147483648) fun (c8 : List Int) (j5 : Int) (a4 : Int) => (lt (fun (d1 : List Int) (d3 : Int) (b4 : List S28) (c3 : Bool) => (lt (fun (g3 : Bool) => (if g3 = true then (some (([] : List S28), 20)) else (some (b4, 0)))) fun g8 => (if d3 = 0 then (if (d1.length : Int) > 0 then (g8 true) else (g8 (!(c3)))) else (g8 true)))) fun e6 => (confidantref21_EventsRead.l0 K e6 a4 K c8 j5 ([] : List S28) true 0))
set_option maxRecDepth 100000 in
theorem confidantref21_EventsRead.calls {K : Nat} {b8 : List Int} {c1 : Option Addr} {c2 : Nat} {e3 : List S28} {e9 : Int} {B w : World} {os : List Ass} {rs : List Ro} (H : confidantref21_EventsRead.f K b8 = some (e3, e9)) (hS : St B w (os) (Ro.sl (Kd.int .u8) c1 c2 b8 :: rs)) :
  Calls Tryd.prog 28 [sv c1 c2 b8].toArray w (fun en w' => ∃ v, en = .returned v ∧ ∃ j6 : Option Addr, ∃ j7 : Nat, v = .tuple #[sv j6 j7 e3, ia e9] ∧ St B w' (Ass.own 28 kS28 j6 j7 e3 :: os) (Ro.sl (Kd.int .u8) c1 c2 b8 :: rs)) := by
 unfold confidantref21_EventsRead.f at H
 refine calls_of_EW (args := [sv c1 c2 b8]) (c := Cd28) 80 Tryd.func28 (by kernel_rfl) (by kernel_rfl) (by kernel_rfl) ?_
 refine EW.sq (by kernel_rfl) ?_
 refine EW.rg (by kernel_rfl) ?_
 refine EL.quick 2 [0] [(0, sv c1 c2 b8)] (by kernel_rfl) ?_
 refine EL.done (by kernel_rfl) ?_
 refine EQ.code ?_
 refine EW.sq (by kernel_rfl) ?_
 refine EW.rg (by kernel_rfl) ?_
 refine EL.quick 2 [11] [(11, ag [sv c1 c2 b8, ia 0])] (by kernel_rfl) ?_
 refine EL.of (EO.box hS 71 (ag [sv c1 c2 b8, ia 0]) [sv c1 c2 b8, ia 0] 12 (by kernel_rfl) (by kernel_rfl) (by kernel_rfl) (by first | rfl | kernel_rfl) ?_)
 intro a0 w hS
 refine EL.quick 1 [4] [(4, pt a0 0)] (by kernel_rfl) ?_
 refine EL.done (by kernel_rfl) ?_
 refine EQ.code ?_
 refine EW.sq (by kernel_rfl) ?_
 refine EW.rg (by kernel_rfl) ?_
 refine EL.quick 1 [4, 5] [(4, pt a0 0), (5, sv none 0 ([] : List S28))] (by kernel_rfl) ?_
 refine EL.done (by kernel_rfl) ?_
 refine EQ.code ?_
 refine EW.sq (by kernel_rfl) ?_
 refine EW.rg (by kernel_rfl) ?_
 refine EL.quick 1 [4, 5, 13] [(4, pt a0 0), (5, sv none 0 ([] : List S28)), (13, pt a0 0)] (by kernel_rfl) ?_
 have hS : St B _ (Ass.box 71 a0 [sv c1 c2 b8, ia 0] :: os) (Ro.sl (Kd.int .u8) c1 c2 b8 :: rs) := hS.re [0] [] rfl (sub_cons 0 rfl (sub_tail (sub_self)))
 obtain ⟨c8, j5, a4, m1, H⟩ := b3_out H
 have hq := confidantref1_Reader_Num.calls m1 hS
 refine EL.of (EO.callD 61 [pt a0 0, ic 2147483648] _ 14 (by kernel_rfl) (by kernel_rfl) (by kernel_rfl) hq ?_)
 rintro v w ⟨c9, d0, rfl, hS⟩
 refine EL.quick 1 [4, 5, 6] [(4, pt a0 0), (5, sv none 0 ([] : List S28)), (6, ic a4)] (by kernel_rfl) ?_
 refine EL.done (by kernel_rfl) ?_
 refine EQ.code ?_
 refine EW.sq (by kernel_rfl) ?_
 refine EW.rg (by kernel_rfl) ?_
 refine EL.quick 1 [4, 5, 6, 7] [(4, pt a0 0), (5, sv none 0 ([] : List S28)), (6, ic a4), (7, .bool (true))] (by kernel_rfl) ?_
 refine EL.done (by kernel_rfl) ?_
 refine EQ.code ?_
 obtain ⟨e6, n0, H⟩ := lt_out H
 refine EW.ct (fun a w => ∃ d1 : List Int, ∃ d3 : Int, ∃ b4 : List S28, ∃ c3 : Bool, ∃ f2 : Option Addr, ∃ f5 : Nat, ∃ b6 : Option Addr, ∃ b7 : Nat, Sat 80 [(4, pt a0 0), (5, sv b6 b7 b4), (7, .bool (c3))] a ∧ St B w (Ass.box 71 a0 [sv f2 f5 d1, ia d3] :: Ass.own 28 kS28 b6 b7 b4 :: os) (Ro.sl (Kd.int .u8) f2 f5 d1 :: Ro.sl (Kd.int .u8) c9 d0 c8 :: Ro.sl (Kd.int .u8) c1 c2 b8 :: rs) ∧ e6 d1 d3 b4 c3 = some (e3, e9)) (by kernel_rfl) ?_ (fun a w hI => ?_)
 ·refine EW.sq (by kernel_rfl) ?_
  refine EW.rg (by kernel_rfl) ?_
  refine EL.quick 1 [4, 5, 6, 7, 8] [(4, pt a0 0), (5, sv none 0 ([] : List S28)), (6, ic a4), (7, .bool (true)), (8, ic 0)] (by kernel_rfl) ?_
  refine EL.done (by kernel_rfl) ?_
  refine EQ.code ?_
  refine EW.bl 0 (by kernel_rfl) ?_
  have hS := St.nilO hS 28 kS28
  refine EW.lp (fun n a w => ∃ c4 : List Int, ∃ c5 : Int, ∃ a1 : List S28, ∃ a7 : Bool, ∃ a5 : Int, ∃ c6 : Option Addr, ∃ c7 : Nat, ∃ a2 : Option Addr, ∃ a3 : Nat, Sat 80 [(4, pt a0 0), (5, sv a2 a3 a1), (6, ic a4), (7, .bool (a7)), (8, ic a5)] a ∧ St B w (Ass.box 71 a0 [sv c6 c7 c4, ia c5] :: Ass.own 28 kS28 a2 a3 a1 :: os) (Ro.sl (Kd.int .u8) c6 c7 c4 :: Ro.sl (Kd.int .u8) c9 d0 c8 :: Ro.sl (Kd.int .u8) c1 c2 b8 :: rs) ∧ confidantref21_EventsRead.l0 K e6 a4 n c4 c5 a1 a7 a5 = some (e3, e9)) K (by kernel_rfl) ?_ (fun n a w hI => ?_)
  ·refine EQ.keep [4, 5, 6, 7, 8] [(4, pt a0 0), (5, sv none 0 ([] : List S28)), (6, ic a4), (7, .bool (true)), (8, ic 0)] (by kernel_rfl) ?_
   exact fun a ha => ⟨c8, j5, ([] : List S28), true, 0, c9, d0, none, 0, ha, (hS.re [0, 1] [] rfl (sub_cons 0 rfl (sub_cons 0 rfl (sub_cons 1 rfl (sub_tail (sub_tail (sub_self))))))), H⟩
  obtain ⟨c4, c5, a1, a7, a5, c6, c7, a2, a3, ha, hS, H⟩ := hI
  obtain _ | n := n
  ·simp [confidantref21_EventsRead.l0] at H
  rw [confidantref21_EventsRead.l0.eq_2] at H
  refine EW.at ?_ a ha
  clear ha a
  refine EW.sq (by kernel_rfl) ?_
  obtain ⟨i5, n1, H⟩ := lt_out H
  refine EW.ct (fun a w => ∃ g2 : Bool, Sat 80 [(4, pt a0 0), (5, sv a2 a3 a1), (6, ic a4), (7, .bool (a7)), (8, ic a5), (24, .bool (g2))] a ∧ St B w (Ass.box 71 a0 [sv c6 c7 c4, ia c5] :: Ass.own 28 kS28 a2 a3 a1 :: os) (Ro.sl (Kd.int .u8) c6 c7 c4 :: Ro.sl (Kd.int .u8) c9 d0 c8 :: Ro.sl (Kd.int .u8) c1 c2 b8 :: rs) ∧ i5 g2 = some (e3, e9)) (by kernel_rfl) ?_ (fun a w hI => ?_)
  ·refine EW.rg (by kernel_rfl) ?_
   refine EL.quick 4 [4, 5, 6, 7, 8, 18] [(4, pt a0 0), (5, sv a2 a3 a1), (6, ic a4), (7, .bool (a7)), (8, ic a5), (18, .bool (decide (a5 < a4)))] (by kernel_rfl) ?_
   by_cases i1 : a5 < a4
   ·rw [if_pos i1] at H
    refine EL.keep [4, 5, 6, 7, 8, 18] [(4, pt a0 0), (5, sv a2 a3 a1), (6, ic a4), (7, .bool (a7)), (8, ic a5), (18, .bool (decide (a5 < a4)))] (by kernel_rfl) ?_
    refine EL.as' [(4, pt a0 0), (5, sv a2 a3 a1), (6, ic a4), (7, .bool (a7)), (8, ic a5), (18, .bool (true))] (by simp only [encS28, sv, dec_t i1, Bool.not_true, Bool.not_false]) ?_
    refine EL.quick 3 [4, 5, 6, 7, 8, 18, 19, 20, 21] [(4, pt a0 0), (5, sv a2 a3 a1), (6, ic a4), (7, .bool (a7)), (8, ic a5), (18, .bool (true)), (19, pt a0 0), (20, pt a0 0), (21, pt a0 1)] (by kernel_rfl) ?_
    refine EL.of (EO.Y (YO.loadBox hS 0 rfl 3 1 1 (ia c5) 22 (by kernel_rfl) (by kernel_rfl) (by kernel_rfl) (by kernel_rfl)) ?_)
    refine EL.quick 2 [4, 5, 6, 7, 8, 19, 20, 21, 22, 23, 24] [(4, pt a0 0), (5, sv a2 a3 a1), (6, ic a4), (7, .bool (a7)), (8, ic a5), (19, pt a0 0), (20, pt a0 0), (21, pt a0 1), (22, ia c5), (23, .bool (decide (c5 = 0))), (24, .bool (decide (c5 = 0)))] (by kernel_rfl) ?_
    refine EL.done (by kernel_rfl) ?_
    refine EQ.to ?_
    refine EQ.keep [4, 5, 6, 7, 8, 24] [(4, pt a0 0), (5, sv a2 a3 a1), (6, ic a4), (7, .bool (a7)), (8, ic a5), (24, .bool (decide (c5 = 0)))] (by kernel_rfl) ?_
    exact fun a ha => ⟨decide (c5 = 0), ha, (hS.re [1, 1] [] rfl (sub_cons 0 rfl (sub_cons 1 rfl (sub_cons 2 rfl (sub_tail (sub_tail (sub_tail (sub_self)))))))), H⟩
   rw [if_neg i1] at H
   refine EL.keep [4, 5, 6, 7, 8, 18] [(4, pt a0 0), (5, sv a2 a3 a1), (6, ic a4), (7, .bool (a7)), (8, ic a5), (18, .bool (decide (a5 < a4)))] (by kernel_rfl) ?_
   refine EL.as' [(4, pt a0 0), (5, sv a2 a3 a1), (6, ic a4), (7, .bool (a7)), (8, ic a5), (18, .bool (false))] (by simp only [encS28, sv, dec_f i1, Bool.not_true, Bool.not_false]) ?_
   refine EL.quick 6 [4, 5, 6, 7, 8, 24] [(4, pt a0 0), (5, sv a2 a3 a1), (6, ic a4), (7, .bool (a7)), (8, ic a5), (24, .bool (false))] (by kernel_rfl) ?_
   refine EL.done (by kernel_rfl) ?_
   refine EQ.to ?_
   refine EQ.keep [4, 5, 6, 7, 8, 24] [(4, pt a0 0), (5, sv a2 a3 a1), (6, ic a4), (7, .bool (a7)), (8, ic a5), (24, .bool (false))] (by kernel_rfl) ?_
   exact fun a ha => ⟨false, ha, (hS.re [1, 1] [] rfl (sub_cons 0 rfl (sub_cons 1 rfl (sub_cons 2 rfl (sub_tail (sub_tail (sub_tail (sub_self)))))))), H⟩
  obtain ⟨g2, ha, hS, H⟩ := hI
  rw [n1] at H
  (try dsimp only at H)
  refine EW.at ?_ a ha
  clear ha a
  refine EW.cdP' (g2) (by kernel_rfl) (by kernel_rfl) (fun j3 => ?_) (fun j3 => ?_)
  ·rw [if_pos j3] at H
   refine EW.skip (by kernel_rfl) ?_
   refine EQ.code ?_
   refine EW.sq (by kernel_rfl) ?_
   refine EW.bl 1 (by kernel_rfl) ?_
   refine EW.sq (by kernel_rfl) ?_
   refine EW.rg (by kernel_rfl) ?_
   refine EL.of (EO.alloc hS 28 (ag (encS28 zS28)) (encS28 zS28) 9 (by kernel_rfl) (by kernel_rfl) (by kernel_rfl) (by kernel_rfl) (by first | rfl | kernel_rfl) ?_)
   intro a6 w hS
   refine EL.done (by kernel_rfl) ?_
   refine EQ.code ?_
   refine EW.sq (by kernel_rfl) ?_
   refine EW.rg (by kernel_rfl) ?_
   refine EL.quick 1 [4, 5, 6, 7, 8, 9, 27] [(4, pt a0 0), (5, sv a2 a3 a1), (6, ic a4), (7, .bool (a7)), (8, ic a5), (9, pt a6 0), (27, pt a0 0)] (by kernel_rfl) ?_
   have hS : St B _ (Ass.box 71 a0 [sv c6 c7 c4, ia c5] :: Ass.box 28 a6 (encS28 zS28) :: Ass.own 28 kS28 a2 a3 a1 :: os) (Ro.sl (Kd.int .u8) c6 c7 c4 :: Ro.sl (Kd.int .u8) c9 d0 c8 :: Ro.sl (Kd.int .u8) c1 c2 b8 :: rs) := hS.re [1] [] rfl (sub_cons 0 rfl (sub_tail (sub_self)))
   obtain ⟨d2, i7, a8, m2, H⟩ := b3_out H
   have hq := confidantref1_Reader_Num.calls m2 hS
   refine EL.of (EO.callD 61 [pt a0 0, ic 65536] _ 28 (by kernel_rfl) (by kernel_rfl) (by kernel_rfl) hq ?_)
   rintro v w ⟨d6, d7, rfl, hS⟩
   refine EL.quick 2 [4, 5, 6, 7, 8, 9, 29, 30] [(4, pt a0 0), (5, sv a2 a3 a1), (6, ic a4), (7, .bool (a7)), (8, ic a5), (9, pt a6 0), (29, ia (IntKind.i64.wrap a8)), (30, pt a6 0)] (by kernel_rfl) ?_
   refine EL.of (EO.storeBox (os' := Ass.box 71 a0 [sv d6 d7 d2, ia i7] :: Ass.box 28 a6 (encS28 {zS28 with f0 := IntKind.i64.wrap a8}) :: Ass.own 28 kS28 a2 a3 a1 :: os) hS 1 rfl 3 0 (ia (IntKind.i64.wrap a8)) (encS28 {zS28 with f0 := IntKind.i64.wrap a8}) (by kernel_rfl) (by kernel_rfl) (by kernel_rfl) (by kernel_rfl) (by kernel_rfl) (by kernel_rfl) rfl rfl ?_)
   intro w hS
   refine EL.done (by kernel_rfl) ?_
   refine EQ.code ?_
   refine EW.sq (by kernel_rfl) ?_
   refine EW.rg (by kernel_rfl) ?_
   refine EL.quick 1 [4, 5, 6, 7, 8, 9, 31] [(4, pt a0 0), (5, sv a2 a3 a1), (6, ic a4), (7, .bool (a7)), (8, ic a5), (9, pt a6 0), (31, pt a0 0)] (by kernel_rfl) ?_
   have hS : St B _ (Ass.box 71 a0 [sv d6 d7 d2, ia i7] :: Ass.box 28 a6 (encS28 {zS28 with f0 := IntKind.i64.wrap a8}) :: Ass.own 28 kS28 a2 a3 a1 :: os) (Ro.sl (Kd.int .u8) d6 d7 d2 :: Ro.sl (Kd.int .u8) c6 c7 c4 :: Ro.sl (Kd.int .u8) c9 d0 c8 :: Ro.sl (Kd.int .u8) c1 c2 b8 :: rs) := hS.re [0] [] rfl (sub_cons 0 rfl (sub_tail (sub_self)))
   obtain ⟨d4, i8, a9, m3, H⟩ := b3_out H
   have hq := confidantref1_Reader_Num.calls m3 hS
   refine EL.of (EO.callD 61 [pt a0 0, ic 16] _ 32 (by kernel_rfl) (by kernel_rfl) (by kernel_rfl) hq ?_)
   rintro v w ⟨d9, e0, rfl, hS⟩
   refine EL.quick 2 [4, 5, 6, 7, 8, 9, 33, 34] [(4, pt a0 0), (5, sv a2 a3 a1), (6, ic a4), (7, .bool (a7)), (8, ic a5), (9, pt a6 0), (33, ia (IntKind.i64.wrap a9)), (34, pt a6 1)] (by kernel_rfl) ?_
   refine EL.of (EO.storeBox (os' := Ass.box 71 a0 [sv d9 e0 d4, ia i8] :: Ass.box 28 a6 (encS28 {zS28 with f0 := IntKind.i64.wrap a8, f1 := IntKind.i64.wrap a9}) :: Ass.own 28 kS28 a2 a3 a1 :: os) hS 1 rfl 3 1 (ia (IntKind.i64.wrap a9)) (encS28 {zS28 with f0 := IntKind.i64.wrap a8, f1 := IntKind.i64.wrap a9}) (by kernel_rfl) (by kernel_rfl) (by kernel_rfl) (by kernel_rfl) (by kernel_rfl) (by kernel_rfl) rfl rfl ?_)
   intro w hS
   refine EL.done (by kernel_rfl) ?_
   refine EQ.code ?_
   refine EW.sq (by kernel_rfl) ?_
   refine EW.rg (by kernel_rfl) ?_
   refine EL.quick 1 [4, 5, 6, 7, 8, 9, 35] [(4, pt a0 0), (5, sv a2 a3 a1), (6, ic a4), (7, .bool (a7)), (8, ic a5), (9, pt a6 0), (35, pt a0 0)] (by kernel_rfl) ?_
   have hS : St B _ (Ass.box 71 a0 [sv d9 e0 d4, ia i8] :: Ass.box 28 a6 (encS28 {zS28 with f0 := IntKind.i64.wrap a8, f1 := IntKind.i64.wrap a9}) :: Ass.own 28 kS28 a2 a3 a1 :: os) (Ro.sl (Kd.int .u8) d9 e0 d4 :: Ro.sl (Kd.int .u8) d6 d7 d2 :: Ro.sl (Kd.int .u8) c6 c7 c4 :: Ro.sl (Kd.int .u8) c9 d0 c8 :: Ro.sl (Kd.int .u8) c1 c2 b8 :: rs) := hS.re [0] [] rfl (sub_cons 0 rfl (sub_tail (sub_self)))
   obtain ⟨d8, i9, b0, m4, H⟩ := b3_out H
   have hq := confidantref1_Reader_Num.calls m4 hS
   refine EL.of (EO.callD 61 [pt a0 0, ic 11] _ 36 (by kernel_rfl) (by kernel_rfl) (by kernel_rfl) hq ?_)
   rintro v w ⟨e4, e5, rfl, hS⟩
   refine EL.quick 2 [4, 5, 6, 7, 8, 9, 37, 38] [(4, pt a0 0), (5, sv a2 a3 a1), (6, ic a4), (7, .bool (a7)), (8, ic a5), (9, pt a6 0), (37, ia (IntKind.i64.wrap b0)), (38, pt a6 2)] (by kernel_rfl) ?_
   refine EL.of (EO.storeBox (os' := Ass.box 71 a0 [sv e4 e5 d8, ia i9] :: Ass.box 28 a6 [ia (IntKind.i64.wrap a8), ia (IntKind.i64.wrap a9), ia (IntKind.i64.wrap b0), ia 0, ib 0, ib 0, ib 0] :: Ass.own 28 kS28 a2 a3 a1 :: os) hS 1 rfl 3 2 (ia (IntKind.i64.wrap b0)) [ia (IntKind.i64.wrap a8), ia (IntKind.i64.wrap a9), ia (IntKind.i64.wrap b0), ia 0, ib 0, ib 0, ib 0] (by kernel_rfl) (by kernel_rfl) (by kernel_rfl) (by kernel_rfl) (by kernel_rfl) (by kernel_rfl) rfl rfl ?_)
   intro w hS
   refine EL.done (by kernel_rfl) ?_
   refine EQ.code ?_
   refine EW.sq (by kernel_rfl) ?_
   refine EW.rg (by kernel_rfl) ?_
   refine EL.quick 1 [4, 5, 6, 7, 8, 9, 39] [(4, pt a0 0), (5, sv a2 a3 a1), (6, ic a4), (7, .bool (a7)), (8, ic a5), (9, pt a6 0), (39, pt a0 0)] (by kernel_rfl) ?_
   have hS : St B _ (Ass.box 71 a0 [sv e4 e5 d8, ia i9] :: Ass.box 28 a6 [ia (IntKind.i64.wrap a8), ia (IntKind.i64.wrap a9), ia (IntKind.i64.wrap b0), ia 0, ib 0, ib 0, ib 0] :: Ass.own 28 kS28 a2 a3 a1 :: os) (Ro.sl (Kd.int .u8) e4 e5 d8 :: Ro.sl (Kd.int .u8) d9 e0 d4 :: Ro.sl (Kd.int .u8) d6 d7 d2 :: Ro.sl (Kd.int .u8) c6 c7 c4 :: Ro.sl (Kd.int .u8) c9 d0 c8 :: Ro.sl (Kd.int .u8) c1 c2 b8 :: rs) := hS.re [0] [] rfl (sub_cons 0 rfl (sub_tail (sub_self)))
   obtain ⟨e2, j0, b2, m5, H⟩ := b3_out H
   have hq := confidantref1_Reader_Num.calls m5 hS
   refine EL.of (EO.callD 61 [pt a0 0, ic 8] _ 40 (by kernel_rfl) (by kernel_rfl) (by kernel_rfl) hq ?_)
   rintro v w ⟨f3, f6, rfl, hS⟩
   refine EL.quick 2 [4, 5, 6, 7, 8, 9, 41, 42] [(4, pt a0 0), (5, sv a2 a3 a1), (6, ic a4), (7, .bool (a7)), (8, ic a5), (9, pt a6 0), (41, ia (IntKind.i64.wrap b2)), (42, pt a6 3)] (by kernel_rfl) ?_
   refine EL.of (EO.storeBox (os' := Ass.box 71 a0 [sv f3 f6 e2, ia j0] :: Ass.box 28 a6 [ia (IntKind.i64.wrap a8), ia (IntKind.i64.wrap a9), ia (IntKind.i64.wrap b0), ia (IntKind.i64.wrap b2), ib 0, ib 0, ib 0] :: Ass.own 28 kS28 a2 a3 a1 :: os) hS 1 rfl 3 3 (ia (IntKind.i64.wrap b2)) [ia (IntKind.i64.wrap a8), ia (IntKind.i64.wrap a9), ia (IntKind.i64.wrap b0), ia (IntKind.i64.wrap b2), ib 0, ib 0, ib 0] (by kernel_rfl) (by kernel_rfl) (by kernel_rfl) (by kernel_rfl) (by kernel_rfl) (by kernel_rfl) rfl rfl ?_)
   intro w hS
   refine EL.done (by kernel_rfl) ?_
   refine EQ.code ?_
   refine EW.sq (by kernel_rfl) ?_
   refine EW.rg (by kernel_rfl) ?_
   refine EL.quick 1 [4, 5, 6, 7, 8, 9, 43] [(4, pt a0 0), (5, sv a2 a3 a1), (6, ic a4), (7, .bool (a7)), (8, ic a5), (9, pt a6 0), (43, pt a0 0)] (by kernel_rfl) ?_
   have hS : St B _ (Ass.box 71 a0 [sv f3 f6 e2, ia j0] :: Ass.box 28 a6 [ia (IntKind.i64.wrap a8), ia (IntKind.i64.wrap a9), ia (IntKind.i64.wrap b0), ia (IntKind.i64.wrap b2), ib 0, ib 0, ib 0] :: Ass.own 28 kS28 a2 a3 a1 :: os) (Ro.sl (Kd.int .u8) f3 f6 e2 :: Ro.sl (Kd.int .u8) e4 e5 d8 :: Ro.sl (Kd.int .u8) d9 e0 d4 :: Ro.sl (Kd.int .u8) d6 d7 d2 :: Ro.sl (Kd.int .u8) c6 c7 c4 :: Ro.sl (Kd.int .u8) c9 d0 c8 :: Ro.sl (Kd.int .u8) c1 c2 b8 :: rs) := hS.re [0] [] rfl (sub_cons 0 rfl (sub_tail (sub_self)))
   obtain ⟨e7, j1, b5, m6, H⟩ := b3_out H
   have hq := confidantref1_Reader_Num.calls m6 hS
   refine EL.of (EO.callD 61 [pt a0 0, ic 2147483647] _ 44 (by kernel_rfl) (by kernel_rfl) (by kernel_rfl) hq ?_)
   rintro v w ⟨g4, g6, rfl, hS⟩
   refine EL.quick 2 [4, 5, 6, 7, 8, 9, 45, 46] [(4, pt a0 0), (5, sv a2 a3 a1), (6, ic a4), (7, .bool (a7)), (8, ic a5), (9, pt a6 0), (45, ib (IntKind.i32.wrap b5)), (46, pt a6 4)] (by kernel_rfl) ?_
   refine EL.of (EO.storeBox (os' := Ass.box 71 a0 [sv g4 g6 e7, ia j1] :: Ass.box 28 a6 [ia (IntKind.i64.wrap a8), ia (IntKind.i64.wrap a9), ia (IntKind.i64.wrap b0), ia (IntKind.i64.wrap b2), ib (IntKind.i32.wrap b5), ib 0, ib 0] :: Ass.own 28 kS28 a2 a3 a1 :: os) hS 1 rfl 21 4 (ib (IntKind.i32.wrap b5)) [ia (IntKind.i64.wrap a8), ia (IntKind.i64.wrap a9), ia (IntKind.i64.wrap b0), ia (IntKind.i64.wrap b2), ib (IntKind.i32.wrap b5), ib 0, ib 0] (by kernel_rfl) (by kernel_rfl) (by kernel_rfl) (by kernel_rfl) (by kernel_rfl) (by kernel_rfl) rfl rfl ?_)
   intro w hS
   refine EL.done (by kernel_rfl) ?_
   refine EQ.code ?_
   refine EW.sq (by kernel_rfl) ?_
   refine EW.rg (by kernel_rfl) ?_
   refine EL.quick 1 [4, 5, 6, 7, 8, 9, 47] [(4, pt a0 0), (5, sv a2 a3 a1), (6, ic a4), (7, .bool (a7)), (8, ic a5), (9, pt a6 0), (47, pt a0 0)] (by kernel_rfl) ?_
   have hS : St B _ (Ass.box 71 a0 [sv g4 g6 e7, ia j1] :: Ass.box 28 a6 [ia (IntKind.i64.wrap a8), ia (IntKind.i64.wrap a9), ia (IntKind.i64.wrap b0), ia (IntKind.i64.wrap b2), ib (IntKind.i32.wrap b5), ib 0, ib 0] :: Ass.own 28 kS28 a2 a3 a1 :: os) (Ro.sl (Kd.int .u8) g4 g6 e7 :: Ro.sl (Kd.int .u8) f3 f6 e2 :: Ro.sl (Kd.int .u8) e4 e5 d8 :: Ro.sl (Kd.int .u8) d9 e0 d4 :: Ro.sl (Kd.int .u8) d6 d7 d2 :: Ro.sl (Kd.int .u8) c6 c7 c4 :: Ro.sl (Kd.int .u8) c9 d0 c8 :: Ro.sl (Kd.int .u8) c1 c2 b8 :: rs) := hS.re [0] [] rfl (sub_cons 0 rfl (sub_tail (sub_self)))
   obtain ⟨f9, j2, b9, m7, H⟩ := b3_out H
   have hq := confidantref1_Reader_Word.calls m7 hS
   refine EL.of (EO.callD 62 [pt a0 0] _ 48 (by kernel_rfl) (by kernel_rfl) (by kernel_rfl) hq ?_)
   rintro v w ⟨g9, i0, rfl, hS⟩
   refine EL.quick 1 [4, 5, 6, 7, 8, 9, 48, 49] [(4, pt a0 0), (5, sv a2 a3 a1), (6, ic a4), (7, .bool (a7)), (8, ic a5), (9, pt a6 0), (48, ib b9), (49, pt a6 5)] (by kernel_rfl) ?_
   refine EL.of (EO.storeBox (os' := Ass.box 71 a0 [sv g9 i0 f9, ia j2] :: Ass.box 28 a6 [ia (IntKind.i64.wrap a8), ia (IntKind.i64.wrap a9), ia (IntKind.i64.wrap b0), ia (IntKind.i64.wrap b2), ib (IntKind.i32.wrap b5), ib b9, ib 0] :: Ass.own 28 kS28 a2 a3 a1 :: os) hS 1 rfl 21 5 (ib b9) [ia (IntKind.i64.wrap a8), ia (IntKind.i64.wrap a9), ia (IntKind.i64.wrap b0), ia (IntKind.i64.wrap b2), ib (IntKind.i32.wrap b5), ib b9, ib 0] (by kernel_rfl) (by kernel_rfl) (by kernel_rfl) (by kernel_rfl) (by kernel_rfl) (by kernel_rfl) rfl rfl ?_)
   intro w hS
   refine EL.done (by kernel_rfl) ?_
   refine EQ.code ?_
   refine EW.sq (by kernel_rfl) ?_
   refine EW.rg (by kernel_rfl) ?_
   refine EL.quick 1 [4, 5, 6, 7, 8, 9, 50] [(4, pt a0 0), (5, sv a2 a3 a1), (6, ic a4), (7, .bool (a7)), (8, ic a5), (9, pt a6 0), (50, pt a0 0)] (by kernel_rfl) ?_
   have hS : St B _ (Ass.box 71 a0 [sv g9 i0 f9, ia j2] :: Ass.box 28 a6 [ia (IntKind.i64.wrap a8), ia (IntKind.i64.wrap a9), ia (IntKind.i64.wrap b0), ia (IntKind.i64.wrap b2), ib (IntKind.i32.wrap b5), ib b9, ib 0] :: Ass.own 28 kS28 a2 a3 a1 :: os) (Ro.sl (Kd.int .u8) g9 i0 f9 :: Ro.sl (Kd.int .u8) g4 g6 e7 :: Ro.sl (Kd.int .u8) f3 f6 e2 :: Ro.sl (Kd.int .u8) e4 e5 d8 :: Ro.sl (Kd.int .u8) d9 e0 d4 :: Ro.sl (Kd.int .u8) d6 d7 d2 :: Ro.sl (Kd.int .u8) c6 c7 c4 :: Ro.sl (Kd.int .u8) c9 d0 c8 :: Ro.sl (Kd.int .u8) c1 c2 b8 :: rs) := hS.re [0] [] rfl (sub_cons 0 rfl (sub_tail (sub_self)))
   obtain ⟨e8, g0, c0, m8, H⟩ := b3_out H
   have hq := confidantref1_Reader_Word.calls m8 hS
   refine EL.of (EO.callD 62 [pt a0 0] _ 51 (by kernel_rfl) (by kernel_rfl) (by kernel_rfl) hq ?_)
   rintro v w ⟨g5, g7, rfl, hS⟩
   refine EL.quick 1 [4, 5, 6, 7, 8, 9, 51, 52] [(4, pt a0 0), (5, sv a2 a3 a1), (6, ic a4), (7, .bool (a7)), (8, ic a5), (9, pt a6 0), (51, ib c0), (52, pt a6 6)] (by kernel_rfl) ?_
   refine EL.of (EO.storeBox (os' := Ass.box 71 a0 [sv g5 g7 e8, ia g0] :: Ass.box 28 a6 [ia (IntKind.i64.wrap a8), ia (IntKind.i64.wrap a9), ia (IntKind.i64.wrap b0), ia (IntKind.i64.wrap b2), ib (IntKind.i32.wrap b5), ib b9, ib c0] :: Ass.own 28 kS28 a2 a3 a1 :: os) hS 1 rfl 21 6 (ib c0) [ia (IntKind.i64.wrap a8), ia (IntKind.i64.wrap a9), ia (IntKind.i64.wrap b0), ia (IntKind.i64.wrap b2), ib (IntKind.i32.wrap b5), ib b9, ib c0] (by kernel_rfl) (by kernel_rfl) (by kernel_rfl) (by kernel_rfl) (by kernel_rfl) (by kernel_rfl) rfl rfl ?_)
   intro w hS
   refine EL.done (by kernel_rfl) ?_
   refine EQ.code ?_
   obtain ⟨i6, n2, H⟩ := lt_out H
   refine EW.ct (fun a w => ∃ d5 : Bool, Sat 80 [(4, pt a0 0), (5, sv a2 a3 a1), (6, ic a4), (7, .bool (d5)), (8, ic a5), (9, pt a6 0)] a ∧ St B w (Ass.box 71 a0 [sv g5 g7 e8, ia g0] :: Ass.box 28 a6 [ia (IntKind.i64.wrap a8), ia (IntKind.i64.wrap a9), ia (IntKind.i64.wrap b0), ia (IntKind.i64.wrap b2), ib (IntKind.i32.wrap b5), ib b9, ib c0] :: Ass.own 28 kS28 a2 a3 a1 :: os) (Ro.sl (Kd.int .u8) g5 g7 e8 :: Ro.sl (Kd.int .u8) g9 i0 f9 :: Ro.sl (Kd.int .u8) g4 g6 e7 :: Ro.sl (Kd.int .u8) f3 f6 e2 :: Ro.sl (Kd.int .u8) e4 e5 d8 :: Ro.sl (Kd.int .u8) d9 e0 d4 :: Ro.sl (Kd.int .u8) d6 d7 d2 :: Ro.sl (Kd.int .u8) c6 c7 c4 :: Ro.sl (Kd.int .u8) c9 d0 c8 :: Ro.sl (Kd.int .u8) c1 c2 b8 :: rs) ∧ i6 d5 = some (e3, e9)) (by kernel_rfl) ?_ (fun a w hI => ?_)
   ·refine EW.rg (by kernel_rfl) ?_
    refine EL.quick 2 [4, 5, 6, 8, 9, 54] [(4, pt a0 0), (5, sv a2 a3 a1), (6, ic a4), (8, ic a5), (9, pt a6 0), (54, .bool (a7))] (by kernel_rfl) ?_
    by_cases i2 : a7 = true
    ·rw [if_pos i2] at H
     refine EL.keep [4, 5, 6, 8, 9, 54] [(4, pt a0 0), (5, sv a2 a3 a1), (6, ic a4), (8, ic a5), (9, pt a6 0), (54, .bool (a7))] (by kernel_rfl) ?_
     refine EL.as' [(4, pt a0 0), (5, sv a2 a3 a1), (6, ic a4), (8, ic a5), (9, pt a6 0), (54, .bool (true))] (by simp only [encS28, sv, i2, Bool.not_true, Bool.not_false]) ?_
     refine EL.of (EO.Y (YO.loadBox hS 1 rfl 28 0 7 (ag [ia (IntKind.i64.wrap a8), ia (IntKind.i64.wrap a9), ia (IntKind.i64.wrap b0), ia (IntKind.i64.wrap b2), ib (IntKind.i32.wrap b5), ib b9, ib c0]) 55 (by kernel_rfl) (by kernel_rfl) (by kernel_rfl) (by kernel_rfl)) ?_)
     obtain ⟨g1, m9, H⟩ := b1_out H
     have hq := confidantref21_EventRight.calls m9 hS
     refine EL.of (EO.callD 24 [ag [ia (IntKind.i64.wrap a8), ia (IntKind.i64.wrap a9), ia (IntKind.i64.wrap b0), ia (IntKind.i64.wrap b2), ib (IntKind.i32.wrap b5), ib b9, ib c0]] _ 56 (by kernel_rfl) (by kernel_rfl) (by kernel_rfl) hq ?_)
     rintro v w ⟨rfl, hS⟩
     refine EL.quick 2 [4, 5, 6, 7, 8, 9, 55, 56] [(4, pt a0 0), (5, sv a2 a3 a1), (6, ic a4), (7, .bool (g1)), (8, ic a5), (9, pt a6 0), (55, ag [ia (IntKind.i64.wrap a8), ia (IntKind.i64.wrap a9), ia (IntKind.i64.wrap b0), ia (IntKind.i64.wrap b2), ib (IntKind.i32.wrap b5), ib b9, ib c0]), (56, .bool (g1))] (by kernel_rfl) ?_
     refine EL.done (by kernel_rfl) ?_
     refine EQ.to ?_
     refine EQ.keep [4, 5, 6, 7, 8, 9] [(4, pt a0 0), (5, sv a2 a3 a1), (6, ic a4), (7, .bool (g1)), (8, ic a5), (9, pt a6 0)] (by kernel_rfl) ?_
     exact fun a ha => ⟨g1, ha, (hS.re [2, 2, 2] [] rfl (sub_cons 0 rfl (sub_cons 1 rfl (sub_cons 2 rfl (sub_cons 3 rfl (sub_cons 4 rfl (sub_cons 5 rfl (sub_cons 6 rfl (sub_cons 7 rfl (sub_cons 8 rfl (sub_cons 9 rfl (sub_tail (sub_tail (sub_tail (sub_tail (sub_tail (sub_tail (sub_tail (sub_tail (sub_tail (sub_tail (sub_self)))))))))))))))))))))), H⟩
    rw [if_neg i2] at H
    refine EL.keep [4, 5, 6, 8, 9, 54] [(4, pt a0 0), (5, sv a2 a3 a1), (6, ic a4), (8, ic a5), (9, pt a6 0), (54, .bool (a7))] (by kernel_rfl) ?_
    refine EL.as' [(4, pt a0 0), (5, sv a2 a3 a1), (6, ic a4), (8, ic a5), (9, pt a6 0), (54, .bool (false))] (by simp only [encS28, sv, (Bool.eq_false_iff.2 i2), Bool.not_true, Bool.not_false]) ?_
    refine EL.quick 4 [4, 5, 6, 7, 8, 9] [(4, pt a0 0), (5, sv a2 a3 a1), (6, ic a4), (7, .bool (false)), (8, ic a5), (9, pt a6 0)] (by kernel_rfl) ?_
    refine EL.done (by kernel_rfl) ?_
    refine EQ.to ?_
    refine EQ.keep [4, 5, 6, 7, 8, 9] [(4, pt a0 0), (5, sv a2 a3 a1), (6, ic a4), (7, .bool (false)), (8, ic a5), (9, pt a6 0)] (by kernel_rfl) ?_
    exact fun a ha => ⟨false, ha, (hS.re [2, 2, 2] [] rfl (sub_cons 0 rfl (sub_cons 1 rfl (sub_cons 2 rfl (sub_cons 3 rfl (sub_cons 4 rfl (sub_cons 5 rfl (sub_cons 6 rfl (sub_cons 7 rfl (sub_cons 8 rfl (sub_cons 9 rfl (sub_tail (sub_tail (sub_tail (sub_tail (sub_tail (sub_tail (sub_tail (sub_tail (sub_tail (sub_tail (sub_self)))))))))))))))))))))), H⟩
   obtain ⟨d5, ha, hS, H⟩ := hI
   rw [n2] at H
   (try dsimp only at H)
   refine EW.at ?_ a ha
   clear ha a
   refine EW.rg (by kernel_rfl) ?_
   refine EL.quick 1 [4, 6, 7, 8, 9, 58] [(4, pt a0 0), (6, ic a4), (7, .bool (d5)), (8, ic a5), (9, pt a6 0), (58, sv a2 a3 a1)] (by kernel_rfl) ?_
   refine EL.of (EO.Y (YO.loadBox hS 1 rfl 28 0 7 (ag [ia (IntKind.i64.wrap a8), ia (IntKind.i64.wrap a9), ia (IntKind.i64.wrap b0), ia (IntKind.i64.wrap b2), ib (IntKind.i32.wrap b5), ib b9, ib c0]) 59 (by kernel_rfl) (by kernel_rfl) (by kernel_rfl) (by kernel_rfl)) ?_)
   obtain ⟨f8, j9, H⟩ := lt_out H
   refine EL.of (EO.lit hS kS28 28 22 1 #[(0, ag [ia (IntKind.i64.wrap a8), ia (IntKind.i64.wrap a9), ia (IntKind.i64.wrap b0), ia (IntKind.i64.wrap b2), ib (IntKind.i32.wrap b5), ib b9, ib c0])] [ia (IntKind.i64.wrap a8), ia (IntKind.i64.wrap a9), ia (IntKind.i64.wrap b0), ia (IntKind.i64.wrap b2), ib (IntKind.i32.wrap b5), ib b9, ib c0] f8 60 (by kernel_rfl) (by kernel_rfl) (by kernel_rfl) (fun _ => (by kernel_rfl)) (by rw [j9]; rfl) (by kernel_rfl) (fun w G hr => (by rw [j9]; exact ⟨[ia (IntKind.i64.wrap a8), ia (IntKind.i64.wrap a9), ia (IntKind.i64.wrap b0), ia (IntKind.i64.wrap b2), ib (IntKind.i32.wrap b5), ib b9, ib c0], [], rfl, ⟨[ia (IntKind.i64.wrap a8)], [ia (IntKind.i64.wrap a9), ia (IntKind.i64.wrap b0), ia (IntKind.i64.wrap b2), ib (IntKind.i32.wrap b5), ib b9, ib c0], rfl, rfl, ⟨[ia (IntKind.i64.wrap a9)], [ia (IntKind.i64.wrap b0), ia (IntKind.i64.wrap b2), ib (IntKind.i32.wrap b5), ib b9, ib c0], rfl, rfl, ⟨[ia (IntKind.i64.wrap b0)], [ia (IntKind.i64.wrap b2), ib (IntKind.i32.wrap b5), ib b9, ib c0], rfl, rfl, ⟨[ia (IntKind.i64.wrap b2)], [ib (IntKind.i32.wrap b5), ib b9, ib c0], rfl, rfl, ⟨[ib (IntKind.i32.wrap b5)], [ib b9, ib c0], rfl, rfl, ⟨[ib b9], [ib c0], rfl, rfl, ⟨[ib c0], [], rfl, rfl, rfl⟩⟩⟩⟩⟩⟩⟩, rfl⟩)) ?_)
   intro j8 w hS
   obtain ⟨m0, H⟩ := ite_in H
   obtain ⟨e1, n4, H⟩ := lt_out H
   refine EL.of (EO.append hS 22 22 28 48 3 kS28 a2 a3 a1 rfl (some ⟨j8, 0, none⟩) 1 f8 (Rd.own 0 28 rfl) e1 n4 (fun f4 f7 => Ass.own 28 kS28 (some ⟨j8, 0, none⟩) 1 f8 :: Ass.box 71 a0 [sv g5 g7 e8, ia g0] :: Ass.box 28 a6 [ia (IntKind.i64.wrap a8), ia (IntKind.i64.wrap a9), ia (IntKind.i64.wrap b0), ia (IntKind.i64.wrap b2), ib (IntKind.i32.wrap b5), ib b9, ib c0] :: Ass.own 28 kS28 f4 f7 e1 :: os) 61 (by kernel_rfl) (by kernel_rfl) (by kernel_rfl) (by kernel_rfl) m0 (fun _ _ => rfl) ?_)
   intro f4 f7 w hS
   refine EL.quick 1 [4, 5, 6, 7, 8] [(4, pt a0 0), (5, sv f4 f7 e1), (6, ic a4), (7, .bool (d5)), (8, ic a5)] (by kernel_rfl) ?_
   refine EL.done (by kernel_rfl) ?_
   refine EQ.pop ?_
   refine EQ.code ?_
   refine EW.rg (by kernel_rfl) ?_
   refine EL.quick 3 [4, 5, 6, 7, 8] [(4, pt a0 0), (5, sv f4 f7 e1), (6, ic a4), (7, .bool (d5)), (8, ic (IntKind.u64.wrap (a5 + 1)))] (by kernel_rfl) ?_
   refine EL.done (by kernel_rfl) ?_
   refine EQ.to ?_
   refine EQ.keep [4, 5, 6, 7, 8] [(4, pt a0 0), (5, sv f4 f7 e1), (6, ic a4), (7, .bool (d5)), (8, ic (IntKind.u64.wrap (a5 + 1)))] (by kernel_rfl) ?_
   exact fun a ha => ⟨n, Nat.lt_succ_self n, e8, g0, e1, d5, IntKind.u64.wrap (a5 + 1), g5, g7, f4, f7, ha, (hS.re [3, 2] [2, 2] rfl (sub_cons 0 rfl (sub_cons 8 rfl (sub_cons 9 rfl (sub_tail (sub_tail (sub_tail (sub_tail (sub_tail (sub_tail (sub_tail (sub_tail (sub_tail (sub_tail (sub_self))))))))))))))), H⟩
  rw [if_neg j3] at H
  refine EW.exit (id := 0) (by kernel_rfl) ?_
  refine EQ.exitCode ?_
  refine EQ.exitTo ?_
  refine EQ.exitHere ?_
  refine EQ.to ?_
  refine EQ.keep [4, 5, 7] [(4, pt a0 0), (5, sv a2 a3 a1), (7, .bool (a7))] (by kernel_rfl) ?_
  exact fun a ha => ⟨c4, c5, a1, a7, c6, c7, a2, a3, ha, (hS.re [1, 1] [] rfl (sub_cons 0 rfl (sub_cons 1 rfl (sub_cons 2 rfl (sub_tail (sub_tail (sub_tail (sub_self)))))))), H⟩
 obtain ⟨d1, d3, b4, c3, f2, f5, b6, b7, ha, hS, H⟩ := hI
 rw [n0] at H
 (try dsimp only at H)
 refine EW.at ?_ a ha
 clear ha a
 refine EW.sq (by kernel_rfl) ?_
 obtain ⟨g8, n3, H⟩ := lt_out H
 refine EW.ct (fun a w => ∃ g3 : Bool, Sat 80 [(5, sv b6 b7 b4), (78, .bool (g3))] a ∧ St B w (Ass.box 71 a0 [sv f2 f5 d1, ia d3] :: Ass.own 28 kS28 b6 b7 b4 :: os) (Ro.sl (Kd.int .u8) f2 f5 d1 :: Ro.sl (Kd.int .u8) c9 d0 c8 :: Ro.sl (Kd.int .u8) c1 c2 b8 :: rs) ∧ g8 g3 = some (e3, e9)) (by kernel_rfl) ?_ (fun a w hI => ?_)
 ·refine EW.rg (by kernel_rfl) ?_
  refine EL.quick 3 [4, 5, 7, 64] [(4, pt a0 0), (5, sv b6 b7 b4), (7, .bool (c3)), (64, pt a0 1)] (by kernel_rfl) ?_
  refine EL.of (EO.Y (YO.loadBox hS 0 rfl 3 1 1 (ia d3) 65 (by kernel_rfl) (by kernel_rfl) (by kernel_rfl) (by kernel_rfl)) ?_)
  refine EL.quick 2 [4, 5, 7, 67] [(4, pt a0 0), (5, sv b6 b7 b4), (7, .bool (c3)), (67, .bool (!(decide (d3 = 0))))] (by kernel_rfl) ?_
  by_cases i3 : d3 = 0
  ·rw [if_pos i3] at H
   refine EL.keep [4, 5, 7, 67] [(4, pt a0 0), (5, sv b6 b7 b4), (7, .bool (c3)), (67, .bool (!(decide (d3 = 0))))] (by kernel_rfl) ?_
   refine EL.as' [(4, pt a0 0), (5, sv b6 b7 b4), (7, .bool (c3)), (67, .bool (false))] (by simp only [encS28, sv, dec_t i3, Bool.not_true, Bool.not_false]) ?_
   refine EL.quick 3 [5, 7, 67, 70] [(5, sv b6 b7 b4), (7, .bool (c3)), (67, .bool (false)), (70, pt a0 0)] (by kernel_rfl) ?_
   refine EL.of (EO.Y (YO.loadBox hS 0 rfl 33 0 1 (sv f2 f5 d1) 71 (by kernel_rfl) (by kernel_rfl) (by kernel_rfl) (by kernel_rfl)) ?_)
   refine EL.quick 4 [5, 7, 75] [(5, sv b6 b7 b4), (7, .bool (c3)), (75, .bool (decide ((d1.length : Int) > 0)))] (by kernel_rfl) ?_
   by_cases i4 : (d1.length : Int) > 0
   ·rw [if_pos i4] at H
    refine EL.keep [5, 7, 75] [(5, sv b6 b7 b4), (7, .bool (c3)), (75, .bool (decide ((d1.length : Int) > 0)))] (by kernel_rfl) ?_
    refine EL.as' [(5, sv b6 b7 b4), (7, .bool (c3)), (75, .bool (true))] (by simp only [encS28, sv, dec_t i4, Bool.not_true, Bool.not_false]) ?_
    refine EL.quick 3 [5, 78] [(5, sv b6 b7 b4), (78, .bool (true))] (by kernel_rfl) ?_
    refine EL.done (by kernel_rfl) ?_
    refine EQ.to ?_
    refine EQ.keep [5, 78] [(5, sv b6 b7 b4), (78, .bool (true))] (by kernel_rfl) ?_
    exact fun a ha => ⟨true, ha, (hS.re [1, 1] [] rfl (sub_cons 0 rfl (sub_cons 1 rfl (sub_cons 2 rfl (sub_tail (sub_tail (sub_tail (sub_self)))))))), H⟩
   rw [if_neg i4] at H
   refine EL.keep [5, 7, 75] [(5, sv b6 b7 b4), (7, .bool (c3)), (75, .bool (decide ((d1.length : Int) > 0)))] (by kernel_rfl) ?_
   refine EL.as' [(5, sv b6 b7 b4), (7, .bool (c3)), (75, .bool (false))] (by simp only [encS28, sv, dec_f i4, Bool.not_true, Bool.not_false]) ?_
   refine EL.quick 3 [5, 78] [(5, sv b6 b7 b4), (78, .bool (!(c3)))] (by kernel_rfl) ?_
   refine EL.done (by kernel_rfl) ?_
   refine EQ.to ?_
   refine EQ.keep [5, 78] [(5, sv b6 b7 b4), (78, .bool (!(c3)))] (by kernel_rfl) ?_
   exact fun a ha => ⟨!(c3), ha, (hS.re [1, 1] [] rfl (sub_cons 0 rfl (sub_cons 1 rfl (sub_cons 2 rfl (sub_tail (sub_tail (sub_tail (sub_self)))))))), H⟩
  rw [if_neg i3] at H
  refine EL.keep [4, 5, 7, 67] [(4, pt a0 0), (5, sv b6 b7 b4), (7, .bool (c3)), (67, .bool (!(decide (d3 = 0))))] (by kernel_rfl) ?_
  refine EL.as' [(4, pt a0 0), (5, sv b6 b7 b4), (7, .bool (c3)), (67, .bool (true))] (by simp only [encS28, sv, dec_f i3, Bool.not_true, Bool.not_false]) ?_
  refine EL.quick 11 [5, 78] [(5, sv b6 b7 b4), (78, .bool (true))] (by kernel_rfl) ?_
  refine EL.done (by kernel_rfl) ?_
  refine EQ.to ?_
  refine EQ.keep [5, 78] [(5, sv b6 b7 b4), (78, .bool (true))] (by kernel_rfl) ?_
  exact fun a ha => ⟨true, ha, (hS.re [1, 1] [] rfl (sub_cons 0 rfl (sub_cons 1 rfl (sub_cons 2 rfl (sub_tail (sub_tail (sub_tail (sub_self)))))))), H⟩
 obtain ⟨g3, ha, hS, H⟩ := hI
 rw [n3] at H
 (try dsimp only at H)
 refine EW.at ?_ a ha
 clear ha a
 refine EW.cdP' (g3) (by kernel_rfl) (by kernel_rfl) (fun j4 => ?_) (fun j4 => ?_)
 ·rw [if_pos j4] at H
  refine EW.sq (by kernel_rfl) ?_
  refine EW.rg (by kernel_rfl) ?_
  refine EL.quick 2 [2, 3] [(2, sv none 0 ([] : List S28)), (3, ia 20)] (by kernel_rfl) ?_
  refine EL.done (by kernel_rfl) ?_
  refine EQ.code ?_
  refine EW.ret (by kernel_rfl) ?_
  refine EQ.ret ?_
  have hS := St.nilO hS 28 kS28
  simp only [encS28, sv, Option.some.injEq, Prod.mk.injEq] at H
  obtain ⟨rfl, rfl⟩ := H
  exact EQ.leave (.tuple #[sv none 0 ([] : List S28), ia 20]) (by kernel_rfl) ⟨_, rfl, none, 0, rfl, (hS.re [0] [1, 1] rfl (sub_tail (sub_tail (sub_self))))⟩
 rw [if_neg j4] at H
 refine EW.skip (by kernel_rfl) ?_
 refine EQ.code ?_
 refine EW.sq (by kernel_rfl) ?_
 refine EW.rg (by kernel_rfl) ?_
 refine EL.quick 3 [2, 3] [(2, sv b6 b7 b4), (3, ia 0)] (by kernel_rfl) ?_
 refine EL.done (by kernel_rfl) ?_
 refine EQ.code ?_
 refine EW.ret (by kernel_rfl) ?_
 simp only [encS28, sv, Option.some.injEq, Prod.mk.injEq] at H
 obtain ⟨rfl, rfl⟩ := H
 exact EQ.leave (.tuple #[sv b6 b7 b4, ia 0]) (by kernel_rfl) ⟨_, rfl, b6, b7, rfl, (hS.re [1] [1] rfl (sub_tail (sub_tail (sub_self))))⟩

end Go.Proofs.YtocdpimpkifdmaaDoor.G
